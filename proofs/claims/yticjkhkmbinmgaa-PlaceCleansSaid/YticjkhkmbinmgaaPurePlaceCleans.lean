/- PlaceCleans: for every list of ranges and every turn the pure form of the law answers true. No condition beyond the row's own. -/
import Derived.Test.YticjkhkmbinmgaaFirstLaws
import Derived.Test.YticjkhkmbinmgaaBits
import Derived.Test.YticjkhkmbinmgaaVCleansx1
namespace Go.Proofs.Yticjkhkmbinmgaa.Pure
open Go.RowKit Go.Proofs.YticjkhkmbinmgaaW.PrintWords Go.Proofs.YticjkhkmbinmgaaW.PrintLast Go.Proofs.YticjkhkmbinmgaaW.PrintMore
open Go.Proofs.Yticjkhkmbinmgaa.QClean Go.Proofs.Yticjkhkmbinmgaa.Canon Go.Proofs.Yticjkhkmbinmgaa.PureA Go.Proofs.Yticjkhkmbinmgaa.PureB Go.Proofs.Yticjkhkmbinmgaa.PureC Go.Proofs.Yticjkhkmbinmgaa.PureD Go.Proofs.Yticjkhkmbinmgaa.TakeLaws Go.Proofs.Yticjkhkmbinmgaa.FirstLaws Go.Proofs.Yticjkhkmbinmgaa.RPlace Go.Proofs.Yticjkhkmbinmgaa.STells Go.Proofs.Yticjkhkmbinmgaa.Bits Go.Proofs.Yticjkhkmbinmgaa.VCleans
open Go.Proofs.Yticjkhkmbinmgaa.GivenA (okR)

def mkC (x : S25) : S25 := ⟨x.f0 % 1024, x.f0 % 1024 + x.f1 % 64⟩
theorem mkC_code (x : S25) : (⟨Go.bits .and .i64 x.f0 1023, wrap64 ((Go.bits .and .i64 x.f0 1023) + (Go.bits .and .i64 x.f1 63))⟩ : S25) = mkC x := by
  rw [and_3ff, and_3f, w64 (by omega) (by omega)]; rfl

theorem cleans_fill (l : List S25) (s : Int) (out : List S25) (n i lo hi : Int) (R : Bool) : ∀ (d t : Nat) (bs : List Bool), t + d ≤ 1100 → hi = ((t + d : Nat) : Int) →
    Ev (fun k => credenzalaw18_PlaceCleans.l0 k l s out (fill true d t bs) n (wrap64 (i + 1))) R → Ev (fun k => credenzalaw18_PlaceCleans.l1 k l s out bs n i (t : Int) lo hi) R
  | 0, t, bs, ht, hh, K => by
    refine Ev.step (fun k => ?_) K
    simp only [credenzalaw18_PlaceCleans.l1]
    rw [if_neg (by omega)]
    rfl
  | d + 1, t, bs, ht, hh, K => by
    have ih := cleans_fill l s out n i lo hi R d (t + 1) (bs.set t true) (by omega) (by omega) K
    rw [← nxt t (by omega)] at ih
    refine Ev.step (fun k => ?_) ih
    simp only [credenzalaw18_PlaceCleans.l1]
    rw [if_pos (by omega), if_pos (by omega), if_pos (by omega), Int.toNat_natCast]

theorem cleans_build (l : List S25) (s : Int) (n : Nat) (hn : n ≤ l.length) (hn2 : n ≤ 12) (R : Bool) (K : ∀ bs', Arr 1100 bs' ((l.take n).map mkC) → Ev (fun k => credenzalaw18_PlaceCleans.l2 k s ((l.take n).map mkC) [] bs' (n : Int) 0) R) :
    ∀ (b p : List S25) (bs : List Bool), l = p ++ b → p.length ≤ n → Arr 1100 bs (p.map mkC) → Ev (fun k => credenzalaw18_PlaceCleans.l0 k l s (p.map mkC) bs (n : Int) (p.length : Int)) R := by
  intro b
  induction b with
  | nil =>
    intro p bs e hp hA
    rw [List.append_nil] at e
    subst e
    have hpn : l.length = n := by omega
    have ht : l.take n = l := by rw [← hpn]; exact List.take_length
    rw [ht] at K
    refine Ev.step (fun k => ?_) (K bs hA)
    simp only [credenzalaw18_PlaceCleans.l0]
    rw [if_neg (by omega)]
  | cons x b ih =>
    intro p bs e hp hA
    have hx : rd_T25 l (p.length : Int) = x := by rw [e]; exact rd_mid p b x
    have hll : l.length = p.length + (b.length + 1) := by rw [e]; simp
    by_cases h : p.length < n
    · obtain ⟨lo, hlo⟩ : ∃ lo : Nat, x.f0 % 1024 = (lo : Int) := ⟨(x.f0 % 1024).toNat, by omega⟩
      obtain ⟨d, hd⟩ : ∃ d : Nat, x.f1 % 64 = (d : Int) := ⟨(x.f1 % 64).toNat, by omega⟩
      have hm : mkC x = ⟨(lo : Int), (lo : Int) + (d : Int)⟩ := by unfold mkC; rw [hlo, hd]
      have hA' := arr_push hA lo d (by omega)
      rw [← hm] at hA'
      have e1 : p.map mkC ++ [mkC x] = (p ++ [x]).map mkC := by simp
      rw [e1] at hA'
      have ih' := ih (p ++ [x]) (fill true d lo bs) (by rw [e]; simp) (by simp; omega) hA'
      rw [← nxt_snoc p x (by omega)] at ih'
      have hf := cleans_fill l s ((p ++ [x]).map mkC) (n : Int) (p.length : Int) (lo : Int) ((lo : Int) + (d : Int)) R d lo bs (by omega) (by omega) ih'
      refine Ev.step (fun k => ?_) hf
      simp only [credenzalaw18_PlaceCleans.l0]
      rw [if_pos (by omega), if_pos (by omega), if_pos (by omega), if_pos (by simp; omega), hx, mkC_code, e1, and_3ff, and_3f, w64 (by omega) (by omega), hlo, hd]
    · have hpn : p.length = n := by omega
      have ht : l.take n = p := by rw [e, ← hpn]; exact List.take_left' rfl
      rw [ht] at K
      refine Ev.step (fun k => ?_) (K bs hA)
      simp only [credenzalaw18_PlaceCleans.l0]
      rw [if_neg (by omega)]

def rot (a : List S25) (s i : Nat) : S25 := a.getD ((i + s) % a.length) z25
theorem cleans_turn (a : List S25) (bs : List Bool) (x1 : Int) (s : Nat) (hs : Go.bits .and .i64 x1 255 = (s : Int)) (hs2 : s < 256) (ha : a.length ≤ 12) (R : Bool)
    (K : Ev (fun k => (place_Clean.f k a).bind fun t115 => (credenzalaw18_PlaceCleans.l3 k ((List.range a.length).map (rot a s)) bs t115 0)) R) :
    ∀ (d i : Nat), i + d = a.length → Ev (fun k => credenzalaw18_PlaceCleans.l2 k x1 a ((List.range i).map (rot a s)) bs (a.length : Int) (i : Int)) R
  | 0, i, h => by
    obtain rfl : i = a.length := by omega
    refine Ev.step (fun k => ?_) K
    simp only [credenzalaw18_PlaceCleans.l2]
    rw [if_neg (by omega)]
  | d + 1, i, h => by
    have ih := cleans_turn a bs x1 s hs hs2 ha R K d (i + 1) (by omega)
    rw [← nxt i (by omega), List.range_succ, List.map_append] at ih
    have hpos : 0 < a.length := by omega
    have hw : Int.tmod (wrap64 ((i : Int) + (s : Int))) (a.length : Int) = (((i + s) % a.length : Nat) : Int) := by
      rw [show wrap64 ((i : Int) + (s : Int)) = ((i + s : Nat) : Int) by unfold wrap64; omega, Int.tmod_eq_emod_of_nonneg (by omega)]
      rfl
    have hlt := Nat.mod_lt (i + s) hpos
    have hr : rd_T25 a (((i + s) % a.length : Nat) : Int) = rot a s i := by unfold rd_T25 rot; rw [Int.toNat_natCast]
    refine Ev.step (fun k => ?_) ih
    simp only [credenzalaw18_PlaceCleans.l2]
    rw [hs, hw, if_pos (by omega), if_neg (by omega), if_pos (by omega), if_pos (by omega), if_pos (by simp; omega), hr]
    rfl
theorem rot_back (j s n : Nat) (hj : j < n) : ((j + (n - s % n)) % n + s) % n = j := by
  have hs := Nat.mod_lt s (show 0 < n by omega)
  have e := Nat.mod_add_div s n
  rw [Nat.mod_add_mod, show j + (n - s % n) + s = j + n * (s / n + 1) by rw [Nat.mul_add, Nat.mul_one]; omega, Nat.add_mul_mod_self_left, Nat.mod_eq_of_lt hj]
theorem rot_mem (a : List S25) (s : Nat) (x : S25) : x ∈ (List.range a.length).map (rot a s) ↔ x ∈ a := by
  rw [List.mem_map]
  constructor
  · rintro ⟨i, hi, rfl⟩
    have hlt := Nat.mod_lt (i + s) (show 0 < a.length by have := List.mem_range.1 hi; omega)
    unfold rot
    rw [List.getD_eq_getElem?_getD, List.getElem?_eq_getElem hlt]
    exact List.getElem_mem hlt
  · intro hx
    obtain ⟨j, hj, rfl⟩ := List.getElem_of_mem hx
    have hpos : 0 < a.length := by omega
    refine ⟨(j + (a.length - s % a.length)) % a.length, List.mem_range.2 (Nat.mod_lt _ hpos), ?_⟩
    have e := rot_back j s a.length hj
    unfold rot
    rw [e, List.getD_eq_getElem?_getD, List.getElem?_eq_getElem hj]
    rfl

theorem cleans_take (b c : List S25) (i : Nat) (x : S25) (hx : rd_T25 c (i : Int) = x) (hi : i < c.length) (R : Bool) : ∀ (d t : Nat) (bs : List Bool), bs.length = 1100 → t + d ≤ 1100 → x.f1 = ((t + d : Nat) : Int) → (∀ u, t ≤ u → u < t + d → bs.getD u false = true) →
    Ev (fun k => credenzalaw18_PlaceCleans.l3 k b (fill false d t bs) c (wrap64 ((i : Int) + 1))) R → Ev (fun k => credenzalaw18_PlaceCleans.l4 k b bs c (i : Int) (t : Int)) R
  | 0, t, bs, hb, ht, hh, hall, K => by
    refine Ev.step (fun k => ?_) K
    simp only [credenzalaw18_PlaceCleans.l4]
    rw [if_pos (by omega), if_pos (by omega), hx, if_neg (by omega)]
    rfl
  | d + 1, t, bs, hb, ht, hh, hall, K => by
    have ih := cleans_take b c i x hx hi R d (t + 1) (bs.set t false) (by rw [List.length_set]; exact hb) (by omega) (by omega) (fun u h1 h2 => by
      rw [List.getD_eq_getElem?_getD, List.getElem?_set, if_neg (by omega), ← List.getD_eq_getElem?_getD]
      exact hall u (by omega) (by omega)) K
    rw [← nxt t (by omega)] at ih
    have hr : rdOf false bs (t : Int) = true := by unfold rdOf; rw [Int.toNat_natCast]; exact hall t (Nat.le_refl _) (by omega)
    refine Ev.step (fun k => ?_) ih
    simp only [credenzalaw18_PlaceCleans.l4]
    rw [if_pos (by omega), if_pos (by omega), hx, if_pos (by omega), if_pos (by omega), if_pos (by omega), if_pos hr, Int.toNat_natCast]

theorem cleans_check (b c : List S25) (hc : Canon.Can c) (hb : ∀ x ∈ c, 0 ≤ x.f0 ∧ x.f1 ≤ 1100) (hl : c.length ≤ 1000) (R : Bool) (K : ∀ bs', Arr 1100 bs' [] → Ev (fun k => credenzalaw18_PlaceCleans.l5 k b bs' c 0) R) :
    ∀ (rest p : List S25) (bs : List Bool), c = p ++ rest → Arr 1100 bs rest → Ev (fun k => credenzalaw18_PlaceCleans.l3 k b bs c (p.length : Int)) R
  | [], p, bs, e, hA => by
    rw [List.append_nil] at e
    subst e
    refine Ev.step (fun k => ?_) (K bs hA)
    simp only [credenzalaw18_PlaceCleans.l3]
    rw [if_neg (by omega)]
  | x :: rest, p, bs, e, hA => by
    have hx : rd_T25 c (p.length : Int) = x := by rw [e]; exact rd_mid p rest x
    have hll : c.length = p.length + (rest.length + 1) := by rw [e]; simp
    have hbx := hb x (by rw [e]; simp)
    have hx01 := hc.1 x (by rw [e]; simp)
    have hcan := hc
    rw [e] at hcan
    obtain ⟨_, hxr, hpx⟩ := can_append.1 hcan
    have hsep := (List.pairwise_cons.1 hxr.2).1
    obtain ⟨lo, hlo⟩ : ∃ lo : Nat, x.f0 = (lo : Int) := ⟨x.f0.toNat, by omega⟩
    obtain ⟨d, hd⟩ : ∃ d : Nat, x.f1 = ((lo + d : Nat) : Int) := ⟨(x.f1 - x.f0).toNat, by omega⟩
    have hA' : Arr 1100 (fill false d lo bs) rest := by
      refine ⟨by rw [fill_length]; exact hA.1, fun t ht => ?_⟩
      rw [fill_get false d lo bs t (by rw [hA.1]; omega), hA.2 t ht]
      by_cases hin : lo ≤ t ∧ t < lo + d
      · rw [if_pos hin]
        cases hv : covB rest (t : Int) with
        | false => rfl
        | true =>
          obtain ⟨y, hy, h1, h2⟩ := (covB_iff rest _).1 hv
          have := hsep y hy
          omega
      · rw [if_neg hin]
        have : covB (x :: rest) (t : Int) = ((decide (x.f0 ≤ (t : Int)) && decide ((t : Int) < x.f1)) || covB rest (t : Int)) := by unfold covB; rw [List.any_cons]
        rw [this]
        by_cases h1 : x.f0 ≤ (t : Int)
        · rw [decide_eq_false (show ¬ (t : Int) < x.f1 by omega)]; simp
        · rw [decide_eq_false h1]; simp
    have ih := cleans_check b c hc hb hl R K rest (p ++ [x]) (fill false d lo bs) (by rw [e]; simp) hA'
    rw [← nxt_snoc p x (by omega)] at ih
    have h4 := cleans_take b c p.length x hx (by omega) R d lo bs hA.1 (by omega) hd (fun u h1 h2 => by
      rw [hA.2 u (by omega), covB_iff]
      exact ⟨x, List.mem_cons_self, by omega, by omega⟩) ih
    have hj : Ev (fun k => credenzalaw18_PlaceCleans.j4 k b bs c (p.length : Int) false) R := by
      refine Ev.step (fun k => ?_) h4
      simp only [credenzalaw18_PlaceCleans.j4]
      rw [if_neg (by decide), if_pos (by omega), if_pos (by omega), hx, hlo]
    refine Ev.step (fun k => ?_) hj
    simp only [credenzalaw18_PlaceCleans.l3]
    rw [if_pos (by omega), if_pos (by omega), hx, if_neg (by omega)]
    rcases List.eq_nil_or_concat p with rfl | ⟨p', y, rfl⟩
    · rw [if_neg (by simp)]
    · rw [List.concat_eq_append] at *
      have hw : wrap64 (((p' ++ [y]).length : Int) - 1) = (p'.length : Int) := by
        rw [List.length_append, List.length_singleton] at *
        unfold wrap64; omega
      have hy : rd_T25 c (p'.length : Int) = y := by rw [e, List.append_assoc]; exact rd_mid p' (x :: rest) y
      have hyx := hpx y (by simp) x List.mem_cons_self
      rw [if_pos (by rw [List.length_append, List.length_singleton]; omega), hw, if_pos (by omega), if_pos (by rw [List.length_append, List.length_singleton] at hll; omega), hy, decide_eq_false (by omega)]

theorem cleans_last (b c : List S25) (bs : List Bool) (hA : Arr 1100 bs []) (R : Bool)
    (K : Ev (fun k => (place_Clean.f k b).bind fun t127 => ((credenzalaw18_same.f k t127 c).bind fun t130 => (if t130 = true then ((place_Clean.f k c).bind fun t131 => ((credenzalaw18_same.f k t131 c).bind fun t134 => (if t134 = true then ((credenzalaw18_awake.f k).bind fun t135 => (some t135)) else (some false)))) else (some false)))) R) :
    ∀ (d t : Nat), t + d = 1100 → Ev (fun k => credenzalaw18_PlaceCleans.l5 k b bs c (t : Int)) R
  | 0, t, h => by
    refine Ev.step (fun k => ?_) K
    simp only [credenzalaw18_PlaceCleans.l5]
    rw [if_neg (by omega)]
  | d + 1, t, h => by
    have ih := cleans_last b c bs hA R K d (t + 1) (by omega)
    rw [← nxt t (by omega)] at ih
    have hr : rdOf false bs (t : Int) = false := by unfold rdOf; rw [Int.toNat_natCast]; exact hA.2 t (by omega)
    refine Ev.step (fun k => ?_) ih
    simp only [credenzalaw18_PlaceCleans.l5]
    rw [if_pos (by omega), if_pos (by omega), hr, if_neg (by decide)]

theorem PlaceCleans (l : List S25) (s0 : Int) : ∃ k, credenzalaw18_PlaceCleans.f k l s0 = some true := by
  refine Ev.rounds (g := fun k => credenzalaw18_PlaceCleans.f k l s0) ?_
  unfold credenzalaw18_PlaceCleans.f
  obtain ⟨n, hn, hn1, hn2⟩ : ∃ n : Nat, mn (l.length : Int) 12 = (n : Int) ∧ n ≤ l.length ∧ n ≤ 12 := by
    unfold mn
    by_cases h : (12 : Int) < (l.length : Int)
    · rw [if_pos h]; exact ⟨12, rfl, by omega, Nat.le_refl _⟩
    · rw [if_neg h]; exact ⟨l.length, rfl, Nat.le_refl _, by omega⟩
  rw [hn]
  refine cleans_build l s0 n hn1 hn2 true (fun bs hA => ?_) l [] _ rfl (Nat.zero_le _) (arr_new 1100)
  have hal : ((l.take n).map mkC).length = n := by simp; omega
  have hbd : ∀ x ∈ (l.take n).map mkC, 0 ≤ x.f0 ∧ x.f0 ≤ x.f1 ∧ x.f1 ≤ 1086 := fun x hx => by
    obtain ⟨y, _, rfl⟩ := List.mem_map.1 hx
    show 0 ≤ y.f0 % 1024 ∧ y.f0 % 1024 ≤ y.f0 % 1024 + y.f1 % 64 ∧ y.f0 % 1024 + y.f1 % 64 ≤ 1086
    omega
  generalize (l.take n).map mkC = a at hal hbd hA ⊢
  subst hal
  have hao : okR a = true := okR_of (by omega) (fun x hx => by have := hbd x hx; omega)
  obtain ⟨s, hs, hs2⟩ : ∃ s : Nat, Go.bits .and .i64 s0 255 = (s : Int) ∧ s < 256 := by
    rw [and_ff]; exact ⟨(s0 % 256).toNat, by omega, by omega⟩
  refine cleans_turn a bs s0 s hs hs2 hn2 true ?_ a.length 0 (by omega)
  have hmem := rot_mem a s
  have hrl : ((List.range a.length).map (rot a s)).length = a.length := by simp
  generalize (List.range a.length).map (rot a s) = b at hmem hrl ⊢
  have hbo : okR b = true := okR_of (by omega) (fun x hx => by have := hbd x ((hmem x).1 hx); omega)
  have hcb : cleanR b = cleanR a := can_unique _ _ (clean_can b) (clean_can a) (fun t => by
    rw [clean_cov b hbo, clean_cov a hao]
    exact ⟨fun ⟨x, hx, h⟩ => ⟨x, (hmem x).1 hx, h⟩, fun ⟨x, hx, h⟩ => ⟨x, (hmem x).2 hx, h⟩⟩)
  have hcl := clean_length a
  have hcan := clean_can a
  have hbc := clean_bounds a
  have hcc : okR (cleanR a) = true := by
    have h1 : (cleanR a).length ≤ a.length := by unfold cleanR; rw [if_pos hao]; exact refC_length a
    exact okR_of (by omega) (fun x hx => by have := hbc x hx; omega)
  have hccc : cleanR (cleanR a) = cleanR a := clean_of_can _ hcan hcc
  have top : ∀ x ∈ cleanR a, 0 ≤ x.f0 ∧ x.f1 ≤ 1100 := fun x hx => by
    have hx1 := hbc x hx
    obtain ⟨y, hy, h1, h2⟩ := (clean_cov a hao (x.f1 - 1)).1 ⟨x, hx, by omega, by omega⟩
    have := hbd y hy
    omega
  have hA2 : Arr 1100 bs (cleanR a) := ⟨hA.1, fun t ht => by
    rw [hA.2 t ht]
    have := clean_cov a hao (t : Int)
    rw [← covB_iff, ← covB_iff] at this
    cases h1 : covB a (t : Int) <;> cases h2 : covB (cleanR a) (t : Int) <;> simp_all⟩
  have aw : Ev (fun k => (credenzalaw18_awake.f k).bind fun t => some t) true := Ev.bind awake_ev (Ev.now true)
  have e1 := clean_ev b
  have e2 := clean_ev (cleanR a)
  rw [hcb] at e1
  rw [hccc] at e2
  have K : Ev (fun k => (place_Clean.f k b).bind fun t127 => ((credenzalaw18_same.f k t127 (cleanR a)).bind fun t130 => (if t130 = true then ((place_Clean.f k (cleanR a)).bind fun t131 => ((credenzalaw18_same.f k t131 (cleanR a)).bind fun t134 => (if t134 = true then ((credenzalaw18_awake.f k).bind fun t135 => (some t135)) else (some false)))) else (some false)))) true := by
    refine Ev.bind e1 (Ev.bind (same_self (cleanR a) (by omega)) ?_)
    refine Ev.congr (fun k => by rw [if_pos rfl]) ?_
    refine Ev.bind e2 (Ev.bind (same_self (cleanR a) (by omega)) ?_)
    exact Ev.congr (fun k => by rw [if_pos rfl]) aw
  have hck := cleans_check b (cleanR a) hcan top hcl true (fun bs' hB => cleans_last b (cleanR a) bs' hB true K 1100 0 rfl) (cleanR a) [] bs rfl hA2
  exact Ev.bind (clean_ev a) (f := fun k t115 => credenzalaw18_PlaceCleans.l3 k b bs t115 0) hck

end Go.Proofs.Yticjkhkmbinmgaa.Pure
