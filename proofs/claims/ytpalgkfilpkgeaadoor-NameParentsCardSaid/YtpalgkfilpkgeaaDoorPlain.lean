/- Names and paths as lists of bytes, and the laws of parting and joining them. Plain lists alone. -/
import Derived.Lib.Join
import Derived.Lib.Split
import Derived.Lib.SplitLaws
import Derived.Lib.IndexBytes
namespace Go.Proofs.YtpalgkfilpkgeaaDoor.Plain
open Go

def sgn (c : UInt8) : Bool :=
  (97 ≤ c && c ≤ 122) || (65 ≤ c && c ≤ 90) || (48 ≤ c && c ≤ 57) || c == 46 || c == 43 || c == 45 || c == 95 || c == 126
def okL (l : List UInt8) : Bool := decide (1 ≤ l.length) && decide (l.length ≤ 27) && !(l == [46]) && !(l == [46, 46]) && l.all sgn
def ok (s : ByteArray) : Bool := okL s.data.toList
def bs (l : List UInt8) : ByteArray := ⟨l.toArray⟩
theorem bs_data (l : List UInt8) : (bs l).data.toList = l := rfl
theorem data_bs (s : ByteArray) : bs s.data.toList = s := rfl

def addHead (c : UInt8) : List (List UInt8) → List (List UInt8)
  | [] => [[c]]
  | p :: ps => (c :: p) :: ps
def pieces : List UInt8 → List (List UInt8)
  | [] => [[]]
  | c :: t => if c = 47 then [] :: pieces t else addHead c (pieces t)

theorem pieces_slash (t : List UInt8) : pieces (47 :: t) = [] :: pieces t := rfl
theorem pieces_other {c : UInt8} (t : List UInt8) (e : ¬ c = 47) : pieces (c :: t) = addHead c (pieces t) := by rw [pieces, if_neg e]
theorem pieces_ne : ∀ l, ∃ p ps, pieces l = p :: ps
  | [] => ⟨_, _, rfl⟩
  | c :: t => by
    obtain ⟨p, ps, h⟩ := pieces_ne t
    unfold pieces
    by_cases e : c = 47
    · rw [if_pos e]; exact ⟨_, _, rfl⟩
    · rw [if_neg e, h]; exact ⟨_, _, rfl⟩

theorem splitK_pieces : ∀ l : List UInt8, Lib.splitK [47] 0 (l.count 47) l = pieces l
  | [] => rfl
  | c :: t => by
    have ih := splitK_pieces t
    have hi := Lib.index_one (c :: t) 47
    have hit := Lib.index_one t 47
    unfold pieces
    by_cases e : c = 47
    · subst e
      rw [if_pos rfl, List.count_cons_self]
      unfold Lib.splitK
      rw [hi]
      have h0 : Lib.indexByte ((47 : UInt8) :: t) 47 = 0 := by simp [Lib.indexByte]
      rw [h0, if_neg (by decide)]
      simp only [Int.toNat_zero, Nat.zero_add, List.take_zero, List.length_singleton, List.drop_one, List.tail_cons]
      rw [ih]
    · rw [if_neg e, List.count_cons_of_ne e]
      have hc : Lib.indexByte (c :: t) 47 = if Lib.indexByte t 47 == -1 then -1 else Lib.indexByte t 47 + 1 := by
        rw [Lib.indexByte, if_neg (by simpa using e)]
      cases hk : t.count 47 with
      | zero =>
        rw [hk] at ih
        unfold Lib.splitK at ih ⊢
        rw [← ih]; rfl
      | succ k =>
        rw [hk] at ih
        unfold Lib.splitK at ih ⊢
        rw [hit] at ih
        rw [hi, hc]
        have hge := Lib.indexByte_ge t 47
        by_cases hm : Lib.indexByte t 47 = -1
        · rw [hm] at ih ⊢
          rw [if_pos (by decide)] at ih
          rw [← ih]; rfl
        · rw [if_neg (by simpa using hm)] at ih
          have hne : ¬ ((Lib.indexByte t 47 == -1) = true) := by simpa using hm
          rw [if_neg hne, if_neg (by simp; omega), ← ih]
          have ht : (Lib.indexByte t 47 + 1).toNat = (Lib.indexByte t 47).toNat + 1 := by omega
          rw [ht]
          simp [addHead]

theorem intercalate_cons (x y : List UInt8) (r : List (List UInt8)) : Lib.join (x :: y :: r) [47] = x ++ 47 :: Lib.join (y :: r) [47] := by
  rw [Lib.join_cons, Lib.join_cons]
  simp [Lib.joinTail]

theorem join_pieces : ∀ l, Lib.join (pieces l) [47] = l
  | [] => rfl
  | c :: t => by
    have ih := join_pieces t
    obtain ⟨p, ps, h⟩ := pieces_ne t
    unfold pieces
    rw [h] at ih ⊢
    by_cases e : c = 47
    · rw [if_pos e, intercalate_cons, ih, e]; rfl
    · rw [if_neg e]
      rw [Lib.join_cons] at ih
      show Lib.join ((c :: p) :: ps) [47] = _
      rw [Lib.join_cons, List.cons_append, ih]

theorem pieces_append (x y : List UInt8) (hx : ∀ c ∈ x, c ≠ 47) : pieces (x ++ 47 :: y) = x :: pieces y := by
  induction x with
  | nil => simp [pieces]
  | cons c x ih =>
    rw [List.cons_append, pieces_other _ (hx c (by simp)), ih (fun d hd => hx d (by simp [hd]))]
    rfl
theorem pieces_plain (x : List UInt8) (hx : ∀ c ∈ x, c ≠ 47) : pieces x = [x] := by
  induction x with
  | nil => rfl
  | cons c x ih =>
    rw [pieces_other _ (hx c (by simp)), ih (fun d hd => hx d (by simp [hd]))]
    rfl
theorem pieces_join : ∀ ps : List (List UInt8), ps ≠ [] → (∀ p ∈ ps, ∀ c ∈ p, c ≠ 47) → pieces (Lib.join ps [47]) = ps
  | [], h, _ => absurd rfl h
  | [x], _, hx => by rw [Lib.join_one]; exact pieces_plain x (hx x (by simp))
  | x :: y :: r, _, hx => by
    rw [intercalate_cons, pieces_append x _ (hx x (by simp)), pieces_join (y :: r) (by simp) (fun p hp => hx p (by simp [hp]))]

theorem sgn_47 (c : UInt8) (h : sgn c = true) : c ≠ 47 := by
  rintro rfl; revert h; decide
theorem okL_all {l : List UInt8} (h : okL l = true) : ∀ c ∈ l, sgn c = true := by
  unfold okL at h
  simp only [Bool.and_eq_true] at h
  exact List.all_eq_true.1 h.2
theorem okL_47 {l : List UInt8} (h : okL l = true) : ∀ c ∈ l, c ≠ 47 := fun c hc => sgn_47 c (okL_all h c hc)
theorem okL_len {l : List UInt8} (h : okL l = true) : 1 ≤ l.length ∧ l.length ≤ 27 := by
  unfold okL at h
  simp only [Bool.and_eq_true, decide_eq_true_eq] at h
  exact ⟨h.1.1.1.1, h.1.1.1.2⟩

def pathOf (ps : List (List UInt8)) : List UInt8 := 47 :: Lib.join ps [47]
def good (ps : List (List UInt8)) : Bool := decide (ps.length ≤ 6) && ps.all okL
def splitP : List UInt8 → Option (List (List UInt8))
  | [] => none
  | c :: t => if c = 47 then (if t = [] then some [] else if good (pieces t) = true then some (pieces t) else none) else none

theorem good_all {ps : List (List UInt8)} (h : good ps = true) : ∀ p ∈ ps, okL p = true := by
  unfold good at h
  simp only [Bool.and_eq_true] at h
  exact List.all_eq_true.1 h.2
theorem good_len {ps : List (List UInt8)} (h : good ps = true) : ps.length ≤ 6 := by
  unfold good at h
  simp only [Bool.and_eq_true, decide_eq_true_eq] at h
  exact h.1
theorem good_nil : good [] = true := rfl

theorem split_path (ps : List (List UInt8)) (h : good ps = true) : splitP (pathOf ps) = some ps := by
  show (if (47 : UInt8) = 47 then (if Lib.join ps [47] = [] then some [] else if good (pieces (Lib.join ps [47])) = true then some (pieces (Lib.join ps [47])) else none) else none) = some ps
  rw [if_pos rfl]
  cases ps with
  | nil => rw [if_pos (by rfl)]
  | cons p r =>
    have hp := okL_len (good_all h p (by simp))
    have e := pieces_join (p :: r) (by simp) (fun q hq => okL_47 (good_all h q hq))
    have hne : ¬ Lib.join (p :: r) [47] = [] := by
      intro he
      rw [Lib.join_cons] at he
      have := congrArg List.length he
      simp at this
      have := this.1
      subst this
      simp at hp
    rw [if_neg hne, e, if_pos h]

theorem path_split (s : List UInt8) (ps : List (List UInt8)) (h : splitP s = some ps) : pathOf ps = s ∧ good ps = true := by
  unfold splitP at h
  cases s with
  | nil => cases h
  | cons c t =>
    simp only at h
    by_cases e : c = 47
    · rw [if_pos e] at h
      by_cases et : t = []
      · rw [if_pos et] at h
        obtain rfl := Option.some.inj h
        subst et; subst e
        exact ⟨rfl, rfl⟩
      · rw [if_neg et] at h
        by_cases g : good (pieces t) = true
        · rw [if_pos g] at h
          obtain rfl := Option.some.inj h
          exact ⟨by unfold pathOf; rw [join_pieces, e], g⟩
        · rw [if_neg g] at h; cases h
    · rw [if_neg e] at h; cases h

theorem join_length : ∀ ps : List (List UInt8), (∀ p ∈ ps, p.length ≤ 27) → ps ≠ [] → (Lib.join ps [47]).length + 1 ≤ 28 * ps.length
  | [], _, h => absurd rfl h
  | [x], hx, _ => by rw [Lib.join_one]; have := hx x (by simp); simp; omega
  | x :: y :: r, hx, _ => by
    have ih := join_length (y :: r) (fun p hp => hx p (by simp [hp])) (by simp)
    have := hx x (by simp)
    rw [intercalate_cons]
    simp at ih ⊢
    omega
theorem path_length (ps : List (List UInt8)) (h : good ps = true) : (pathOf ps).length ≤ 168 := by
  have hl := good_len h
  unfold pathOf
  cases ps with
  | nil => simp [Lib.join_nil]
  | cons p r =>
    have := join_length (p :: r) (fun q hq => (okL_len (good_all h q hq)).2) (by simp)
    simp only [List.length_cons] at this hl ⊢
    omega
theorem split_long (s : List UInt8) (h : 168 < s.length) : splitP s = none := by
  cases hs : splitP s with
  | none => rfl
  | some ps =>
    obtain ⟨e, g⟩ := path_split s ps hs
    have := path_length ps g
    rw [e] at this; omega

end Go.Proofs.YtpalgkfilpkgeaaDoor.Plain
