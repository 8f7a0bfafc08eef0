/- Where a piece fits, in plain lists: what Find answers is the least multiple of sixteen that all of it fits at; a lesser piece fits no later. And an array of bools that is filled. -/
import Derived.Test.YticjkhkmbinmgaaTakeLaws
namespace Go.Proofs.Yticjkhkmbinmgaa.FirstLaws
open Go.RowKit Go.Proofs.YticjkhkmbinmgaaW.PrintWords Go.Proofs.YticjkhkmbinmgaaW.PrintLast Go.Proofs.YticjkhkmbinmgaaW.PrintMore
open Go.Proofs.Yticjkhkmbinmgaa.QClean Go.Proofs.Yticjkhkmbinmgaa.Canon Go.Proofs.Yticjkhkmbinmgaa.PureA Go.Proofs.Yticjkhkmbinmgaa.PureB Go.Proofs.Yticjkhkmbinmgaa.PureC Go.Proofs.Yticjkhkmbinmgaa.PureD
open Go.Proofs.Yticjkhkmbinmgaa.GivenA (okR bad)

theorem can_two : ∀ {c : List S25}, Canon.Can c → ∀ x ∈ c, ∀ y ∈ c, x = y ∨ x.f1 < y.f0 ∨ y.f1 < x.f0
  | [], _, x, hx, _, _ => by cases hx
  | z :: c, h, x, hx, y, hy => by
    have hp := (List.pairwise_cons.1 h.2).1
    rcases List.mem_cons.1 hx with rfl | hx'
    · rcases List.mem_cons.1 hy with rfl | hy'
      · exact .inl rfl
      · exact .inr (.inl (hp y hy'))
    · rcases List.mem_cons.1 hy with rfl | hy'
      · exact .inr (.inr (hp x hx'))
      · exact can_two (can_tail h) x hx' y hy'

def fits (c : List S25) (p m : Int) : Prop := ∃ x ∈ c, x.f0 ≤ p ∧ p + m ≤ x.f1
/-- All of a piece is covered just if it lies in one range. -/
theorem fits_iff (c : List S25) (h : Canon.Can c) (p m : Int) (hm : 1 ≤ m) : fits c p m ↔ ∀ t, p ≤ t → t < p + m → cov c t := by
  constructor
  · rintro ⟨x, hx, h1, h2⟩ t ht1 ht2
    exact ⟨x, hx, by omega, by omega⟩
  · intro hall
    obtain ⟨x, hx, h1, h2⟩ := hall p (Int.le_refl _) (by omega)
    refine ⟨x, hx, h1, ?_⟩
    by_cases hlt : x.f1 < p + m
    · obtain ⟨y, hy, k1, k2⟩ := hall x.f1 (by omega) hlt
      have hy0 := h.1 y hy
      have hx0 := h.1 x hx
      rcases can_two h x hx y hy with e | e | e
      · subst e; omega
      · omega
      · omega
    · omega
theorem up_least (n p : Int) (h : n ≤ p) (hp : p % 16 = 0) : upR n ≤ p := by unfold upR; omega
theorem up_mod (n : Int) : upR n % 16 = 0 := by unfold upR; omega
theorem up_ge (n : Int) : n ≤ upR n := by unfold upR; omega

theorem find_spec : ∀ (c : List S25) (m : Int), Canon.Can c → Bnd c → 1 ≤ m →
    (∀ q, findR c m = (q, true) → q % 16 = 0 ∧ 0 ≤ q ∧ fits c q m ∧ ∀ p, p % 16 = 0 → fits c p m → q ≤ p) ∧
    ((findR c m).2 = false → findR c m = (0, false) ∧ ∀ p, p % 16 = 0 → ¬ fits c p m)
  | [], m, _, _, _ => ⟨fun q h => by simp [findR] at h, fun _ => ⟨rfl, fun p _ h => by obtain ⟨x, hx, _⟩ := h; cases hx⟩⟩
  | x :: c, m, hc, hb, hm => by
    obtain ⟨i1, i2⟩ := find_spec c m (can_tail hc) (fun y hy => hb y (List.mem_cons_of_mem _ hy)) hm
    have hx := hb x List.mem_cons_self
    have hp := (List.pairwise_cons.1 hc.2).1
    have hu := up_ge x.f0
    by_cases h : upR x.f0 + m ≤ x.f1
    · have e : findR (x :: c) m = (upR x.f0, true) := by rw [findR, if_pos h]
      rw [e]
      refine ⟨fun q hq => ?_, fun hq => by cases hq⟩
      have hq' : upR x.f0 = q := congrArg Prod.fst hq
      subst hq'
      refine ⟨up_mod _, by omega, ⟨x, List.mem_cons_self, hu, h⟩, fun p hp16 hf => ?_⟩
      obtain ⟨y, hy, h1, h2⟩ := hf
      rcases List.mem_cons.1 hy with rfl | hy
      · exact up_least _ _ h1 hp16
      · have := hp y hy; omega
    · have e : findR (x :: c) m = findR c m := by rw [findR, if_neg h]
      have hfit : ∀ p, p % 16 = 0 → (fits (x :: c) p m ↔ fits c p m) := fun p hp16 => by
        constructor
        · rintro ⟨y, hy, h1, h2⟩
          rcases List.mem_cons.1 hy with rfl | hy
          · have := up_least _ _ h1 hp16; omega
          · exact ⟨y, hy, h1, h2⟩
        · rintro ⟨y, hy, h1⟩
          exact ⟨y, List.mem_cons_of_mem _ hy, h1⟩
      rw [e]
      refine ⟨fun q hq => ?_, fun hq => ?_⟩
      · obtain ⟨a1, a2, a3, a4⟩ := i1 q hq
        exact ⟨a1, a2, (hfit q a1).2 a3, fun p hp16 hf => a4 p hp16 ((hfit p hp16).1 hf)⟩
      · obtain ⟨a1, a2⟩ := i2 hq
        exact ⟨a1, fun p hp16 hf => a2 p hp16 ((hfit p hp16).1 hf)⟩

/-- A lesser piece fits no later. -/
theorem find_less (c : List S25) (m m' : Int) (hc : Canon.Can c) (hb : Bnd c) (hm : 1 ≤ m') (hle : m' ≤ m) (q : Int) (h : findR c m = (q, true)) : ∃ q', findR c m' = (q', true) ∧ q' ≤ q := by
  obtain ⟨a1, _, ⟨x, hx, h1, h2⟩, _⟩ := (find_spec c m hc hb (by omega)).1 q h
  have hf : fits c q m' := ⟨x, hx, h1, by omega⟩
  obtain ⟨j1, j2⟩ := find_spec c m' hc hb hm
  cases hr : findR c m' with
  | mk q' t =>
    cases t with
    | true => exact ⟨q', rfl, (j1 q' hr).2.2.2 q a1 hf⟩
    | false => exact absurd hf ((j2 (by rw [hr])).2 q a1)

/-! ### an array that is filled -/
def fill (v : Bool) : Nat → Nat → List Bool → List Bool
  | 0, _, bs => bs
  | d + 1, t, bs => fill v d (t + 1) (bs.set t v)
theorem fill_length (v : Bool) : ∀ (d t : Nat) (bs : List Bool), (fill v d t bs).length = bs.length
  | 0, _, _ => rfl
  | d + 1, t, bs => by rw [fill, fill_length v d, List.length_set]
theorem fill_get (v : Bool) : ∀ (d t : Nat) (bs : List Bool) (i : Nat), t + d ≤ bs.length → (fill v d t bs).getD i false = if t ≤ i ∧ i < t + d then v else bs.getD i false
  | 0, t, bs, i, _ => by rw [if_neg (by omega)]; rfl
  | d + 1, t, bs, i, h => by
    rw [fill, fill_get v d (t + 1) (bs.set t v) i (by rw [List.length_set]; omega)]
    by_cases h1 : t + 1 ≤ i ∧ i < t + 1 + d
    · rw [if_pos h1, if_pos (by omega)]
    · rw [if_neg h1, List.getD_eq_getElem?_getD, List.getD_eq_getElem?_getD, List.getElem?_set]
      by_cases h2 : t = i
      · subst h2
        rw [if_pos rfl, if_pos (by omega), if_pos (by omega)]; rfl
      · rw [if_neg h2, if_neg (by omega)]

def covB (l : List S25) (t : Int) : Bool := l.any fun x => decide (x.f0 ≤ t) && decide (t < x.f1)
theorem covB_iff (l : List S25) (t : Int) : covB l t = true ↔ cov l t := by
  unfold covB cov
  rw [List.any_eq_true]
  exact ⟨fun ⟨x, hx, h⟩ => ⟨x, hx, by simpa using h⟩, fun ⟨x, hx, h⟩ => ⟨x, hx, by simpa using h⟩⟩
/-- The array of a list of ranges: its bytes are those that the ranges cover. -/
def Arr (n : Nat) (bs : List Bool) (a : List S25) : Prop := bs.length = n ∧ ∀ t : Nat, t < n → bs.getD t false = covB a (t : Int)
theorem arr_new (n : Nat) : Arr n (List.replicate n false) [] := by
  refine ⟨List.length_replicate, fun t ht => ?_⟩
  rw [List.getD_eq_getElem?_getD, List.getElem?_replicate, if_pos ht]; rfl
theorem arr_push {n : Nat} {bs : List Bool} {a : List S25} (h : Arr n bs a) (lo d : Nat) (hd : lo + d ≤ n) : Arr n (fill true d lo bs) (a ++ [⟨(lo : Int), (lo : Int) + (d : Int)⟩]) := by
  refine ⟨by rw [fill_length]; exact h.1, fun t ht => ?_⟩
  rw [fill_get true d lo bs t (by rw [h.1]; exact hd), h.2 t ht]
  unfold covB
  rw [List.any_append]
  simp only [List.any_cons, List.any_nil, Bool.or_false]
  by_cases hin : lo ≤ t ∧ t < lo + d
  · rw [if_pos hin, decide_eq_true (show (lo : Int) ≤ (t : Int) by omega), decide_eq_true (show (t : Int) < (lo : Int) + (d : Int) by omega)]; simp
  · rw [if_neg hin]
    by_cases h1 : lo ≤ t
    · rw [decide_eq_false (show ¬ (t : Int) < (lo : Int) + (d : Int) by omega)]; simp
    · rw [decide_eq_false (show ¬ (lo : Int) ≤ (t : Int) by omega)]; simp

def allB (bs : List Bool) : Nat → Nat → Bool
  | _, 0 => true
  | t, d + 1 => bs.getD t false && allB bs (t + 1) d
theorem allB_iff {n : Nat} {bs : List Bool} {a : List S25} (h : Arr n bs a) : ∀ (d t : Nat), t + d ≤ n → (allB bs t d = true ↔ ∀ u : Int, (t : Int) ≤ u → u < (t : Int) + (d : Int) → cov a u)
  | 0, t, _ => ⟨fun _ u h1 h2 => by omega, fun _ => rfl⟩
  | d + 1, t, hd => by
    have ih := allB_iff h d (t + 1) (by omega)
    rw [allB, Bool.and_eq_true, ih, h.2 t (by omega), covB_iff]
    constructor
    · rintro ⟨h0, h1⟩ u hu1 hu2
      by_cases e : u = (t : Int)
      · subst e; exact h0
      · exact h1 u (by omega) (by omega)
    · intro hall
      exact ⟨hall _ (Int.le_refl _) (by omega), fun u hu1 hu2 => hall u (by omega) (by omega)⟩

def srch (m : Nat) (bs : List Bool) : Nat → Nat → Int → Int
  | 0, _, w => w
  | f + 1, i, w => if w < 0 then srch m bs f (i + 1) (if allB bs (16 * i) m = true then ((16 * i : Nat) : Int) else w) else w
theorem srch_found (m : Nat) (bs : List Bool) (f i : Nat) (w : Int) (h : 0 ≤ w) : srch m bs f i w = w := by
  cases f with
  | zero => rfl
  | succ f => rw [srch, if_neg (by omega)]
theorem srch_spec (m : Nat) (bs : List Bool) : ∀ f i : Nat, (srch m bs f i (-1) = -1 ∧ ∀ j, i ≤ j → j < i + f → allB bs (16 * j) m = false) ∨
    ∃ j, i ≤ j ∧ j < i + f ∧ srch m bs f i (-1) = ((16 * j : Nat) : Int) ∧ allB bs (16 * j) m = true ∧ ∀ j', i ≤ j' → j' < j → allB bs (16 * j') m = false
  | 0, i => .inl ⟨rfl, fun j h1 h2 => by omega⟩
  | f + 1, i => by
    rw [srch, if_pos (by decide)]
    by_cases h : allB bs (16 * i) m = true
    · rw [if_pos h, srch_found m bs f (i + 1) _ (by omega)]
      exact .inr ⟨i, Nat.le_refl _, by omega, rfl, h, fun j' h1 h2 => by omega⟩
    · rw [if_neg h]
      have hf : allB bs (16 * i) m = false := by simpa using h
      rcases srch_spec m bs f (i + 1) with ⟨a1, a2⟩ | ⟨j, a1, a2, a3, a4, a5⟩
      · refine .inl ⟨a1, fun j h1 h2 => ?_⟩
        by_cases e : j = i
        · subst e; exact hf
        · exact a2 j (by omega) (by omega)
      · refine .inr ⟨j, by omega, by omega, a3, a4, fun j' h1 h2 => ?_⟩
        by_cases e : j' = i
        · subst e; exact hf
        · exact a5 j' (by omega) h2

/-- What the search through the array finds is what Find answers. -/
theorem srch_find (a : List S25) (bs : List Bool) (m : Nat) (h : Arr 1500 bs a) (ha : okR a = true) (hb : ∀ x ∈ a, x.f1 ≤ 1278) (hm : 1 ≤ m) (hm2 : m ≤ 200) :
    (∃ q : Int, 0 ≤ q ∧ findR (cleanR a) (m : Int) = (q, true) ∧ srch m bs 80 0 (-1) = q) ∨ (findR (cleanR a) (m : Int) = (0, false) ∧ srch m bs 80 0 (-1) = -1) := by
  have hc := clean_can a
  have hbd := clean_bounds a
  have hcov := TakeLaws.clean_cov a ha
  obtain ⟨s1, s2⟩ := find_spec (cleanR a) (m : Int) hc hbd (by omega)
  have key : ∀ j : Nat, j < 80 → (allB bs (16 * j) m = true ↔ fits (cleanR a) ((16 * j : Nat) : Int) (m : Int)) := fun j hj => by
    rw [allB_iff h m (16 * j) (by omega), fits_iff (cleanR a) hc _ _ (by omega)]
    exact ⟨fun k t h1 h2 => (hcov t).2 (k t h1 h2), fun k t h1 h2 => (hcov t).1 (k t h1 h2)⟩
  have top : ∀ x ∈ cleanR a, x.f1 ≤ 1278 := fun x hx => by
    have hx1 := hbd x hx
    obtain ⟨y, hy, h1, h2⟩ := (hcov (x.f1 - 1)).1 ⟨x, hx, by omega, by omega⟩
    have := hb y hy
    omega
  cases hr : findR (cleanR a) (m : Int) with
  | mk q t =>
    cases t with
    | true =>
      obtain ⟨a1, a2, ⟨x, hx, a3, a4⟩, a5⟩ := s1 q hr
      have hx1 := top x hx
      obtain ⟨j, rfl⟩ : ∃ j : Nat, q = ((16 * j : Nat) : Int) := ⟨(q / 16).toNat, by omega⟩
      have hj : j < 80 := by omega
      have hA := (key j hj).2 ⟨x, hx, a3, a4⟩
      refine .inl ⟨_, a2, rfl, ?_⟩
      rcases srch_spec m bs 80 0 with ⟨_, b2⟩ | ⟨i, _, b2, b3, b4, b5⟩
      · rw [b2 j (Nat.zero_le _) (by omega)] at hA; cases hA
      · rw [b3]
        have g1 := a5 _ (by omega) ((key i (by omega)).1 b4)
        rcases Nat.lt_or_ge j i with hlt | hge
        · rw [b5 j (Nat.zero_le _) hlt] at hA; cases hA
        · have : j = i := by omega
          rw [this]
    | false =>
      obtain ⟨a1, a2⟩ := s2 (by rw [hr])
      rw [hr] at a1
      refine .inr ⟨a1, ?_⟩
      rcases srch_spec m bs 80 0 with ⟨b1, _⟩ | ⟨i, _, b2, b3, b4, b5⟩
      · exact b1
      · exact absurd ((key i (by omega)).1 b4) (a2 _ (by omega))

end Go.Proofs.Yticjkhkmbinmgaa.FirstLaws
