/- NamePaths: for every list of names and every number the pure form of the law answers true. No condition beyond the row's own. -/
import Derived.Test.YtpalgkfilpkgeaaDoorPNamePathsx1
import Derived.Test.YtpalgkfilpkgeaaDoorRef3
import Derived.Test.YtpalgkfilpkgeaaDoorPureBase
namespace Go.Proofs.YtpalgkfilpkgeaaDoor.Pure
open Go.RowKit Go.Proofs.YtpalgkfilpkgeaaDoor Go.Proofs.YtpalgkfilpkgeaaDoor.PNamePaths Go.Proofs.YtpalgkfilpkgeaaDoorW.PrintWords Go.Proofs.YtpalgkfilpkgeaaDoorW.PrintLast
open Go.Proofs.YtpalgkfilpkgeaaDoor.PureBase

theorem pieces_parted : ∀ x y : List UInt8, Plain.pieces (x ++ 47 :: y) = Plain.pieces x ++ Plain.pieces y
  | [], y => by simp [Plain.pieces]
  | c :: t, y => by
    have ih := pieces_parted t y
    by_cases e : c = 47
    · subst e
      rw [List.cons_append, Plain.pieces_slash, Plain.pieces_slash, ih]; rfl
    · rw [List.cons_append, Plain.pieces_other _ e, Plain.pieces_other _ e, ih]
      obtain ⟨p, ps, h⟩ := Plain.pieces_ne t
      rw [h]; rfl
theorem pieces_count : ∀ l : List UInt8, (Plain.pieces l).length = l.count 47 + 1
  | [] => rfl
  | c :: t => by
    have ih := pieces_count t
    by_cases e : c = 47
    · subst e
      rw [Plain.pieces_slash, List.length_cons, ih, List.count_cons_self]
    · rw [Plain.pieces_other _ e, List.count_cons_of_ne e, ← ih]
      obtain ⟨p, ps, h⟩ := Plain.pieces_ne t
      rw [h]; rfl
/-- The number of a path's names is the number of its slashes. -/
theorem split_count (s : List UInt8) (ps : List (List UInt8)) (h : Plain.splitP s = some ps) (hs : s.length ≠ 1) : ps.length = s.count 47 := by
  unfold Plain.splitP at h
  cases s with
  | nil => cases h
  | cons c t =>
    simp only at h
    by_cases e : c = 47
    · rw [if_pos e] at h
      by_cases et : t = []
      · subst et; simp at hs
      · rw [if_neg et] at h
        by_cases g : Plain.good (Plain.pieces t) = true
        · rw [if_pos g] at h
          obtain rfl := Option.some.inj h
          subst e
          rw [pieces_count, List.count_cons_self]
        · rw [if_neg g] at h; cases h
    · rw [if_neg e] at h; cases h

theorem split_no_head (c : UInt8) (t : List UInt8) (e : c ≠ 47) : Plain.splitP (c :: t) = none := by
  show (if c = 47 then (if t = [] then some [] else if Plain.good (Plain.pieces t) = true then some (Plain.pieces t) else none) else none) = none
  rw [if_neg e]
theorem split_tail_slash (t : List UInt8) (ht : t ≠ []) : Plain.splitP (t ++ [47]) = none := by
  cases h : Plain.splitP (t ++ [47]) with
  | none => rfl
  | some ps =>
    exfalso
    cases t with
    | nil => exact ht rfl
    | cons c u =>
      unfold Plain.splitP at h
      rw [List.cons_append] at h
      simp only at h
      by_cases e : c = 47
      · rw [if_pos e, if_neg (by simp)] at h
        by_cases g : Plain.good (Plain.pieces (u ++ [47])) = true
        · rw [pieces_parted] at g
          have := Plain.good_all g [] (by simp [Plain.pieces])
          revert this; decide
        · rw [if_neg g] at h; cases h
      · rw [if_neg e] at h; cases h

theorem extract_list (s : ByteArray) (a b : Nat) : (s.extract a b).data.toList = (s.data.toList.take b).drop a := by
  rw [ByteArray.data_extract, Array.toList_extract]
  simp [List.drop_take]

theorem splitR_none (s : ByteArray) (h : Plain.splitP s.data.toList = none) : (Ref.splitR s).2 = false := by
  unfold Ref.splitR; rw [h]
theorem splitR_count (s : ByteArray) (h : (Ref.splitR s).2 = true) (hs : s.data.toList.length ≠ 1) : (Ref.splitR s).1.length = s.data.toList.count 47 := by
  unfold Ref.splitR at h ⊢
  cases hp : Plain.splitP s.data.toList with
  | none => rw [hp] at h; cases h
  | some ps =>
    show (ps.map Plain.bs).length = _
    rw [List.length_map]
    exact split_count _ ps hp hs

/-- The facts of a path of one name or more. -/
theorem path_facts (l : List ByteArray) (h : (Ref.joinR l).2 = true) (hl : l ≠ []) :
    2 ≤ (Ref.joinR l).1.data.toList.length ∧ (Ref.joinR l).1.data.toList.length ≤ 168 ∧ (Ref.joinR l).1.data.toList.count 47 = l.length ∧
      Plain.splitP ((Ref.joinR l).1.data.toList.drop 1) = none ∧ l.length ≤ 6 := by
  have hg : Plain.good (l.map (·.data.toList)) = true := by
    unfold Ref.joinR at h
    by_cases hg : Plain.good (l.map (·.data.toList)) = true
    · exact hg
    · rw [if_neg hg] at h; cases h
  have e : (Ref.joinR l).1.data.toList = Plain.pathOf (l.map (·.data.toList)) := by
    unfold Ref.joinR; rw [if_pos hg]; rfl
  have h6 := Plain.good_len hg
  rw [List.length_map] at h6
  have hlen := Plain.path_length _ hg
  rw [e]
  cases l with
  | nil => exact absurd rfl hl
  | cons x r =>
    have hx := Plain.good_all hg x.data.toList (by simp)
    have hx1 := (Plain.okL_len hx).1
    obtain ⟨c, t, hct⟩ : ∃ c t, x.data.toList = c :: t := by
      cases hd : x.data.toList with
      | nil => rw [hd] at hx1; simp at hx1
      | cons c t => exact ⟨c, t, rfl⟩
    have hc : c ≠ 47 := Plain.okL_47 hx c (by rw [hct]; simp)
    have hp : Plain.pathOf ((x :: r).map (·.data.toList)) = 47 :: c :: (t ++ Lib.joinTail [47] (r.map (·.data.toList))) := by
      unfold Plain.pathOf
      rw [List.map_cons, Lib.join_cons, hct]; rfl
    refine ⟨by rw [hp]; simp, hlen, ?_, ?_, h6⟩
    · have hs := Plain.split_path _ hg
      have := split_count _ _ hs (by rw [hp]; simp)
      rw [← this, List.length_map]
    · rw [hp]; exact split_no_head c _ hc

theorem paths_j0 (l : List ByteArray) (a : Int) (h : (Ref.joinR l).2 = true) (t : Bool) (hl : t = false → l ≠ []) : credenzalaw9_NamePaths.j0 1 l a (Ref.joinR l).1 t = some true := by
  cases t with
  | true => rfl
  | false =>
    obtain ⟨h2, h168, hcount, htail, h6⟩ := path_facts l h (hl rfl)
    generalize (Ref.joinR l).1 = p at h2 h168 hcount htail ⊢
    have hsz : p.size = p.data.toList.length := Lib.size_eq p
    have hw : wrap64 ((p.size : Int) + 1) = (p.size : Int) + 1 := w64 (by omega) (by omega)
    simp only [credenzalaw9_NamePaths.j0]
    rw [if_neg (by decide), hw, if_neg (by omega), and_ffff, Int.tmod_eq_emod_of_nonneg (by omega)]
    have la := Int.emod_lt_of_pos (a % 65536) (show (0 : Int) < (p.size : Int) + 1 by omega)
    have na := Int.emod_nonneg (a % 65536) (show (p.size : Int) + 1 ≠ 0 by omega)
    generalize a % 65536 % ((p.size : Int) + 1) = x at la na ⊢
    obtain ⟨m, rfl⟩ := Int.eq_ofNat_of_zero_le na
    have hm : m ≤ p.size := by omega
    rw [if_pos (by omega), if_pos (by omega), Int.toNat_natCast]
    have s1 : (p.extract 0 m).size = m := by rw [ByteArray.size_extract]; omega
    have s2 : (p.extract m p.size).size = p.size - m := by rw [ByteArray.size_extract]; omega
    rw [s1, if_pos (by omega), ByteArray.size_append, s1, s2, if_pos (by show m + 1 + (p.size - m) ≤ _; omega)]
    have hq : ((p.extract 0 m ++ (⟨#[47]⟩ : ByteArray)) ++ p.extract m p.size).data.toList = p.data.toList.take m ++ 47 :: p.data.toList.drop m := by
      rw [ByteArray.data_append, ByteArray.data_append, Array.toList_append, Array.toList_append, extract_list, extract_list, hsz, List.take_length]
      simp
    generalize (p.extract 0 m ++ (⟨#[47]⟩ : ByteArray)) ++ p.extract m p.size = q at hq ⊢
    have hqc : q.data.toList.count 47 = l.length + 1 := by
      rw [hq, List.count_append, List.count_cons_self, ← hcount]
      conv => rhs; rw [← List.take_append_drop m p.data.toList, List.count_append]
      omega
    have hql : q.data.toList.length ≠ 1 := by
      rw [hq, List.length_append, List.length_cons, List.length_take, List.length_drop]; omega
    have ht : (Ref.splitR (p.extract 1 p.size)).2 = false := splitR_none _ (by rw [extract_list, hsz, List.take_length]; exact htail)
    have hs : (Ref.splitR (p ++ (⟨#[47]⟩ : ByteArray))).2 = false := splitR_none _ (by
      rw [ByteArray.data_append, Array.toList_append]
      exact split_tail_slash _ (by intro hh; rw [hh] at h2; simp at h2))
    rw [Ref.split_R, Option.bind_some]
    show (Option.bind (some (Ref.splitR q)) _) = _
    rw [Option.bind_some, if_pos (by omega), Ref.split_R, Option.bind_some, if_pos (by omega), Ref.split_R, Option.bind_some, if_pos (by simp)]
    show (Option.bind (some (decide ((Ref.splitR q).1 = (Ref.splitR q).1))) _) = _
    rw [decide_eq_true rfl, Option.bind_some, if_pos rfl, ht, hs, if_neg (by decide), if_neg (by decide)]
    by_cases hb : (Ref.splitR q).2 = true
    · rw [if_pos hb, splitR_count q hb hql, hqc, w64 (by omega) (by omega), if_pos (by omega)]; rfl
    · rw [if_neg hb]; rfl

def NamePathsPure : Prop := ∀ (l : List ByteArray) (a : Int), l.length ≤ 9223372036854775807 → (Lit.int .i64 a).wf = true → ∃ k, credenzalaw9_NamePaths.f k l a = some true
theorem NamePaths : NamePathsPure := by
  intro l a _ _
  refine ⟨1, ?_⟩
  unfold credenzalaw9_NamePaths.f
  by_cases h : (l.length : Int) > 20
  · rw [if_pos h]; rfl
  rw [if_neg h, Ref.join_R, Option.bind_some]
  by_cases hj : (Ref.joinR l).2 = true
  · rw [if_pos hj]
    refine paths_j0 l a hj _ fun e => ?_
    rintro rfl
    cases e
  · rw [if_neg hj]
    rfl

end Go.Proofs.YtpalgkfilpkgeaaDoor.Pure
