/- NameWithin: for every list of names and two numbers the pure form of the law answers true. No condition beyond the row's own. -/
import Derived.Test.YtpalgkfilpkgeaaDoorPNameWithinx1
import Derived.Test.YtpalgkfilpkgeaaDoorPureNameJoins
import Derived.Test.YtpalgkfilpkgeaaDoorPureBase
namespace Go.Proofs.YtpalgkfilpkgeaaDoor.Pure
open Go.RowKit Go.Proofs.YtpalgkfilpkgeaaDoor Go.Proofs.YtpalgkfilpkgeaaDoor.PNameWithin Go.Proofs.YtpalgkfilpkgeaaDoorW.PrintWords Go.Proofs.YtpalgkfilpkgeaaDoorW.PrintLast
open Go.Proofs.YtpalgkfilpkgeaaDoor.PureBase

theorem good_take (ps : List (List UInt8)) (n : Nat) (h : Plain.good ps = true) : Plain.good (ps.take n) = true := by
  have h6 := Plain.good_len h
  have ha := Plain.good_all h
  unfold Plain.good
  rw [Bool.and_eq_true, decide_eq_true_eq, List.all_eq_true]
  refine ⟨by rw [List.length_take]; omega, fun p hp => ha p (List.mem_of_mem_take hp)⟩
theorem join_good (l : List ByteArray) (h : (Ref.joinR l).2 = true) : Plain.good (l.map (·.data.toList)) = true := by
  unfold Ref.joinR at h
  by_cases hg : Plain.good (l.map (·.data.toList)) = true
  · exact hg
  · rw [if_neg hg] at h; cases h
theorem join_take (l : List ByteArray) (n : Nat) (h : (Ref.joinR l).2 = true) : (Ref.joinR (l.take n)).2 = true := by
  have hg := good_take _ n (join_good l h)
  rw [← List.map_take] at hg
  unfold Ref.joinR
  rw [if_pos hg]
theorem within_join (l m : List ByteArray) (hl : (Ref.joinR l).2 = true) (hm : (Ref.joinR m).2 = true) :
    Ref.withinR (Ref.joinR l).1 (Ref.joinR m).1 = (decide (m.length ≤ l.length) && decide (l.take m.length = m)) := by
  unfold Ref.withinR
  rw [split_join l hl, split_join m hm]
  simp
theorem within_take (l : List ByteArray) (a b : Nat) (h : (Ref.joinR l).2 = true) (hab : a ≤ b) :
    Ref.withinR (Ref.joinR (l.take b)).1 (Ref.joinR (l.take a)).1 = true := by
  rw [within_join _ _ (join_take l b h) (join_take l a h)]
  rw [Bool.and_eq_true, decide_eq_true_eq, decide_eq_true_eq]
  refine ⟨by simp only [List.length_take]; omega, ?_⟩
  rw [List.take_take, List.length_take]
  have : min (min a l.length) b = min a l.length := by omega
  rw [this, List.take_eq_take_iff]
  omega
theorem within_back (l : List ByteArray) (a b : Nat) (h : (Ref.joinR l).2 = true) (hab : a ≤ b) (hb : b ≤ l.length) :
    Ref.withinR (Ref.joinR (l.take a)).1 (Ref.joinR (l.take b)).1 = decide (a = b) := by
  rw [within_join _ _ (join_take l a h) (join_take l b h)]
  by_cases e : a = b
  · subst e
    rw [decide_eq_true rfl, decide_eq_true (Nat.le_refl _), List.take_length, decide_eq_true rfl]; rfl
  · rw [decide_eq_false e]
    have : ¬ (l.take b).length ≤ (l.take a).length := by simp only [List.length_take]; omega
    rw [decide_eq_false this, Bool.false_and]
theorem root_join : (Ref.joinR []).2 = true := rfl
theorem root_path : (Ref.joinR []).1 = (⟨#[47]⟩ : ByteArray) := rfl

theorem within_R (a b : ByteArray) : Given7.name_Within.f a b = some (Ref.withinR a b) := rfl
theorem within_j0 (l : List ByteArray) (a b : Nat) (h : (Ref.joinR l).2 = true) (hab : a ≤ b) (hb : b ≤ l.length) :
    credenzalaw9_NameWithin.j0 1 l (a : Int) (b : Int) (Ref.joinR l).1 = some true := by
  have hl : l.take l.length = l := List.take_length
  have w1 : Ref.withinR (Ref.joinR l).1 (Ref.joinR (l.take b)).1 = true := by
    have := within_take l b l.length h hb; rwa [hl] at this
  have w2 := within_take l a b h hab
  have w3 : Ref.withinR (Ref.joinR l).1 (Ref.joinR (l.take a)).1 = true := by
    have := within_take l a l.length h (by omega); rwa [hl] at this
  have w4 : Ref.withinR (Ref.joinR l).1 (⟨#[47]⟩ : ByteArray) = true := by
    have := within_take l 0 l.length h (by omega); rwa [hl] at this
  have w5 : Ref.withinR (Ref.joinR l).1 (Ref.joinR l).1 = true := by
    have := within_take l l.length l.length h (by omega); rwa [hl] at this
  have w6 := within_back l a b h hab hb
  simp only [credenzalaw9_NameWithin.j0]
  rw [if_pos (by omega), if_pos (by omega), Ref.join_R, Option.bind_some, if_pos (by omega), if_pos (by omega), Ref.join_R, Option.bind_some, Int.toNat_natCast, Int.toNat_natCast]
  rw [within_R, w1, Option.bind_some, if_pos rfl, within_R, w2, Option.bind_some, if_pos rfl, within_R, w3, Option.bind_some, if_pos rfl, within_R, w4, Option.bind_some, if_pos rfl, within_R, w5, Option.bind_some, if_pos rfl, within_R]
  rw [w6]
  have e : ((a : Int) == (b : Int)) = decide (a = b) := by
    by_cases e : a = b
    · subst e; simp
    · rw [decide_eq_false e]; exact beq_eq_false_iff_ne.2 (by omega)
  rw [e]
  show (if (decide (a = b) == decide (a = b)) = true then _ else _) = _
  rw [if_pos (by simp)]
  rfl

def NameWithinPure : Prop := ∀ (l : List ByteArray) (a b : Int), l.length ≤ 9223372036854775807 → (Lit.int .i64 a).wf = true → (Lit.int .i64 b).wf = true → ∃ k, credenzalaw9_NameWithin.f k l a b = some true
theorem NameWithin : NameWithinPure := by
  intro l a b _ _ _
  refine ⟨1, ?_⟩
  unfold credenzalaw9_NameWithin.f
  by_cases h : (l.length : Int) > 10
  · rw [if_pos h]; rfl
  rw [if_neg h, Ref.join_R, Option.bind_some]
  by_cases hj : (Ref.joinR l).2 = true
  · have hw : wrap64 ((l.length : Int) + 1) = (l.length : Int) + 1 := w64 (by omega) (by omega)
    rw [if_pos hj, hw, if_neg (by omega), and_ff, and_ff, Int.tmod_eq_emod_of_nonneg (by omega), Int.tmod_eq_emod_of_nonneg (by omega)]
    have la := Int.emod_lt_of_pos (a % 256) (show (0 : Int) < (l.length : Int) + 1 by omega)
    have lb := Int.emod_lt_of_pos (b % 256) (show (0 : Int) < (l.length : Int) + 1 by omega)
    have na := Int.emod_nonneg (a % 256) (show (l.length : Int) + 1 ≠ 0 by omega)
    have nb := Int.emod_nonneg (b % 256) (show (l.length : Int) + 1 ≠ 0 by omega)
    generalize a % 256 % ((l.length : Int) + 1) = x at la na ⊢
    generalize b % 256 % ((l.length : Int) + 1) = y at lb nb ⊢
    obtain ⟨m, rfl⟩ := Int.eq_ofNat_of_zero_le na
    obtain ⟨n, rfl⟩ := Int.eq_ofNat_of_zero_le nb
    by_cases hm : (m : Int) > (n : Int)
    · rw [if_pos hm]; exact within_j0 l n m hj (by omega) (by omega)
    · rw [if_neg hm]; exact within_j0 l m n hj (by omega) (by omega)
  · rw [if_neg hj]; rfl

end Go.Proofs.YtpalgkfilpkgeaaDoor.Pure
