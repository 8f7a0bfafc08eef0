/- NameParents: for every list of names and every two texts the pure form of the law answers true. No condition beyond the row's own. -/
import Derived.Test.YtpalgkfilpkgeaaDoorPNameParentsx1
import Derived.Test.YtpalgkfilpkgeaaDoorPureNameJoins
import Derived.Test.YtpalgkfilpkgeaaDoorPureBase
namespace Go.Proofs.YtpalgkfilpkgeaaDoor.Pure
open Go.RowKit Go.Proofs.YtpalgkfilpkgeaaDoor Go.Proofs.YtpalgkfilpkgeaaDoor.PNameParents Go.Proofs.YtpalgkfilpkgeaaDoorW.PrintWords Go.Proofs.YtpalgkfilpkgeaaDoorW.PrintLast
open Go.Proofs.YtpalgkfilpkgeaaDoor.PureBase

theorem gd_take (ps : List (List UInt8)) (n : Nat) (h : Plain.good ps = true) : Plain.good (ps.take n) = true := by
  have h6 := Plain.good_len h
  have ha := Plain.good_all h
  unfold Plain.good
  rw [Bool.and_eq_true, decide_eq_true_eq, List.all_eq_true]
  refine ⟨by rw [List.length_take]; omega, fun p hp => ha p (List.mem_of_mem_take hp)⟩
theorem jn_good (l : List ByteArray) (h : (Ref.joinR l).2 = true) : Plain.good (l.map (·.data.toList)) = true := by
  unfold Ref.joinR at h
  by_cases hg : Plain.good (l.map (·.data.toList)) = true
  · exact hg
  · rw [if_neg hg] at h; cases h
theorem jn_take (l : List ByteArray) (n : Nat) (h : (Ref.joinR l).2 = true) : (Ref.joinR (l.take n)).2 = true := by
  have hg := gd_take _ n (jn_good l h)
  rw [← List.map_take] at hg
  unfold Ref.joinR
  rw [if_pos hg]
theorem joinR_tail (l : List ByteArray) (h : (Ref.joinR l).2 = true) (hl : l ≠ []) : (Ref.joinR l).1 = Plain.bs (Ref.tail l) := by
  have hg := jn_good l h
  unfold Ref.joinR
  rw [if_pos hg, Ref.tail_path, if_neg hl]
theorem joinR_size (l : List ByteArray) : (Ref.joinR l).1.size ≤ 168 := by
  unfold Ref.joinR
  by_cases hg : Plain.good (l.map (·.data.toList)) = true
  · rw [if_pos hg]
    have := Plain.path_length _ hg
    rw [Lib.size_eq]; exact this
  · rw [if_neg hg]; decide
theorem tail_snoc (l : List ByteArray) (x : ByteArray) : Ref.tail (l ++ [x]) = Ref.tail l ++ 47 :: x.data.toList := by
  unfold Ref.tail
  simp
theorem bs_append (a b : List UInt8) : Plain.bs a ++ Plain.bs b = Plain.bs (a ++ b) := by
  apply ByteArray.ext
  simp [Plain.bs]

theorem less_self (a : List UInt8) : Op.bytesLess a a = false := by
  induction a with
  | nil => rfl
  | cons c t ih => simp [Op.bytesLess, ih]

theorem parents_j2 (l : List ByteArray) (x a b p : ByteArray) (h : (Ref.joinR (l ++ [x])).2 = true) :
    credenzalaw9_NameParents.j2 1 (l ++ [x]) a b p (Ref.joinR l).1 x true p = some true := by
  have hl : (Ref.joinR l).2 = true := by
    have := jn_take (l ++ [x]) l.length h
    rwa [List.take_left'] at this
    rfl
  have h6 := Plain.good_len (jn_good _ h)
  simp at h6
  have hw : wrap64 (((l ++ [x]).length : Int) - 1) = (l.length : Int) := by
    rw [List.length_append, List.length_singleton]; unfold wrap64; omega
  have ht : (l ++ [x]).take l.length = l := List.take_left' rfl
  simp only [credenzalaw9_NameParents.j2]
  rw [Ref.split_R, split_join l hl, Option.bind_some, if_pos trivial, if_pos trivial, hw, if_pos (by omega), if_pos (by simp; omega), Ref.rd_get _ _ (by simp), Int.toNat_natCast, ht]
  rw [if_pos (by simp), if_pos rfl, if_pos (by simp; omega)]
  show (Option.bind (some (decide (l = l))) _) = _
  rw [decide_eq_true rfl, Option.bind_some, if_pos rfl]
  show (if (Op.bytesLess a.toList b.toList == Op.bytesLess a.toList b.toList) = true then _ else _) = _
  rw [if_pos (by simp)]
  show (Option.bind (some (Op.bytesLess a.toList a.toList)) _) = _
  rw [less_self]
  rfl

theorem parents_j1 (l : List ByteArray) (a b : ByteArray) (t : Bool) (h : (Ref.joinR l).2 = true) (hl : t = false → l ≠ []) : credenzalaw9_NameParents.j1 2 l a b (Ref.joinR l).1 t = some true := by
  cases t with
  | true => rfl
  | false =>
    rcases List.eq_nil_or_concat l with e | ⟨m, x, e⟩
    · exact absurd e (hl rfl)
    rw [List.concat_eq_append] at e
    subst e
    have hm : (Ref.joinR m).2 = true := by
      have := jn_take (m ++ [x]) m.length h
      rwa [List.take_left'] at this
      rfl
    have hpar : Ref.parentR (Ref.joinR (m ++ [x])).1 = ((Ref.joinR m).1, x, true) := by
      unfold Ref.parentR
      rw [split_join _ h, if_pos ⟨rfl, by simp⟩]
      simp
    have key := parents_j2 m x a b (Ref.joinR (m ++ [x])).1 h
    simp only [credenzalaw9_NameParents.j1]
    rw [if_neg (by decide)]
    show (Option.bind (some (Ref.parentR (Ref.joinR (m ++ [x])).1)) _) = _
    rw [hpar, Option.bind_some]
    have hs := joinR_size m
    have hx : x.size ≤ 27 := by
      have := (Plain.okL_len (Plain.good_all (jn_good _ h) x.data.toList (by simp))).2
      rwa [Lib.size_eq]
    rw [if_pos (by show (Ref.joinR m).1.size + 1 ≤ _; omega), if_pos (by show ((Ref.joinR m).1 ++ (⟨#[47]⟩ : ByteArray)).size + x.size ≤ _; rw [ByteArray.size_append]; show (Ref.joinR m).1.size + 1 + x.size ≤ _; omega)]
    have full : (Ref.joinR (m ++ [x])).1 = Plain.bs (Ref.tail m ++ 47 :: x.data.toList) := by
      rw [joinR_tail _ h (by simp), tail_snoc]
    by_cases hz : m = []
    · subst hz
      rw [if_pos (by show (⟨#[47]⟩ : ByteArray).toList = _; rw [Lib.toList_data]), if_pos (by show 1 + x.size ≤ _; omega)]
      have e : (⟨#[47]⟩ : ByteArray) ++ x = (Ref.joinR ([] ++ [x])).1 := by
        rw [full]; exact bs_append [47] x.data.toList
      show credenzalaw9_NameParents.j2 1 ([] ++ [x]) a b (Ref.joinR ([] ++ [x])).1 (Ref.joinR []).1 x true ((⟨#[47]⟩ : ByteArray) ++ x) = some true
      rw [e]; exact key
    · have e : ((Ref.joinR m).1 ++ (⟨#[47]⟩ : ByteArray)) ++ x = (Ref.joinR (m ++ [x])).1 := by
        rw [full, joinR_tail _ hm hz]
        show (Plain.bs (Ref.tail m) ++ Plain.bs [47]) ++ Plain.bs x.data.toList = _
        rw [bs_append, bs_append]; simp
      have hne : ¬ (Ref.joinR m).1.toList = ([47] : List UInt8) := by
        intro hh
        rw [Lib.toList_data, joinR_tail _ hm hz] at hh
        rcases List.eq_nil_or_concat m with e' | ⟨n, y, e'⟩
        · exact hz e'
        rw [List.concat_eq_append] at e'
        subst e'
        have hy := (Plain.okL_len (Plain.good_all (jn_good _ hm) y.data.toList (by simp))).1
        have hh' : Ref.tail (n ++ [y]) = [47] := hh
        rw [tail_snoc] at hh'
        have := congrArg List.length hh'
        simp at this hy
        omega
      rw [if_neg hne]
      show credenzalaw9_NameParents.j2 1 (m ++ [x]) a b (Ref.joinR (m ++ [x])).1 (Ref.joinR m).1 x true (((Ref.joinR m).1 ++ (⟨#[47]⟩ : ByteArray)) ++ x) = some true
      rw [e]; exact key

theorem parents_j0 (l : List ByteArray) (a b : ByteArray) (t : Bool) : credenzalaw9_NameParents.j0 3 l a b t = some true := by
  cases t with
  | true => rfl
  | false =>
    simp only [credenzalaw9_NameParents.j0]
    rw [if_neg (by decide), Ref.join_R, Option.bind_some]
    by_cases h : (Ref.joinR l).2 = true
    · rw [if_pos h]
      refine parents_j1 l a b _ h fun e => ?_
      rintro rfl
      cases e
    · rw [if_neg h]; rfl

def NameParentsPure : Prop := ∀ (l : List ByteArray) (a b : ByteArray), l.length ≤ 9223372036854775807 → a.size ≤ 140737488351232 → b.size ≤ 140737488351232 → ∃ k, credenzalaw9_NameParents.f k l a b = some true
theorem NameParents : NameParentsPure := by
  intro l a b _ _ _
  refine ⟨3, ?_⟩
  unfold credenzalaw9_NameParents.f
  by_cases h : (l.length : Int) > 20
  · rw [if_pos h]; exact parents_j0 l a b true
  rw [if_neg h]
  by_cases h : (a.size : Int) > 200
  · rw [if_pos h]; exact parents_j0 l a b true
  · rw [if_neg h]; exact parents_j0 l a b _

end Go.Proofs.YtpalgkfilpkgeaaDoor.Pure
