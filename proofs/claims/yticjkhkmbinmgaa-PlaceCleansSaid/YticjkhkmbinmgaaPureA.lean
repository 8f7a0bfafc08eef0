/- What the printed Clean of the document comes to: Canon's refC. Condition: at most 1000 ranges. -/
import Derived.Test.YticjkhkmbinmgaaQCleanx2
import Derived.Test.YticjkhkmbinmgaaCanon
import Derived.Test.YticjkhkmbinmgaaGivenA
namespace Go.Proofs.Yticjkhkmbinmgaa.PureA
open Go.RowKit Go.Proofs.YticjkhkmbinmgaaW.PrintWords Go.Proofs.YticjkhkmbinmgaaW.PrintLast Go.Proofs.YticjkhkmbinmgaaW.PrintMore
open Go.Proofs.Yticjkhkmbinmgaa.QClean Go.Proofs.Yticjkhkmbinmgaa.Canon
open Go.Proofs.Yticjkhkmbinmgaa.GivenA (okR bad)

theorem rd_mid (a b : List S25) (z : S25) : rd_T25 (a ++ z :: b) (a.length : Int) = z := by
  unfold rd_T25
  rw [Int.toNat_natCast, List.getD_eq_getElem?_getD, List.getElem?_append_right (Nat.le_refl _)]
  simp
theorem nxt (i : Nat) (h : i ≤ 1000000) : wrap64 ((i : Int) + 1) = ((i + 1 : Nat) : Int) := by unfold wrap64; omega
theorem nxt_snoc (a : List S25) (z : S25) (h : a.length ≤ 1000000) : wrap64 ((a.length : Int) + 1) = ((a ++ [z]).length : Int) := by
  rw [nxt _ h, List.length_append, List.length_singleton]

/-! ### RangesOk -/
theorem rangesOk_loop (l : List S25) : ∀ (b a : List S25), l = a ++ b → a.length + b.length ≤ 1000 → Ev (fun k => credenzaref14_RangesOk.l0 k l (a.length : Int)) (!b.any bad)
  | [], a, e, h => by
    subst e
    refine Ev.step (f := fun _ => some true) (fun k => ?_) (Ev.now true)
    simp only [credenzaref14_RangesOk.l0]
    rw [if_neg (by simp)]
  | z :: b, a, e, h => by
    have ih := rangesOk_loop l b (a ++ [z]) (by rw [e]; simp) (by simp at h ⊢; omega)
    rw [← nxt_snoc a z (by simp at h; omega)] at ih
    have hz : rd_T25 l (a.length : Int) = z := by rw [e]; exact rd_mid a b z
    have hl : (a.length : Int) < (l.length : Int) := by rw [e]; simp; omega
    rw [List.any_cons]
    refine Ev.step (f := fun k => if bad z = true then some false else credenzaref14_RangesOk.l0 k l (wrap64 ((a.length : Int) + 1))) (fun k => ?_) ?_
    · simp only [credenzaref14_RangesOk.l0]
      rw [if_pos hl, if_pos (by omega), hz]
      unfold bad
      by_cases h1 : z.f0 < 0
      · simp [h1]
      by_cases h2 : z.f1 < z.f0
      · simp [h1, h2]
      by_cases h3 : z.f1 > 1073741824
      · simp [h1, h2, h3]
      · simp [h1, h2, h3]
    · cases hb : bad z with
      | true => simpa using Ev.now false
      | false => simpa using ih
theorem rangesOk_ev (l : List S25) (h : l.length ≤ 1000) : Ev (fun k => credenzaref14_RangesOk.f k l) (okR l) := by
  unfold credenzaref14_RangesOk.f okR
  by_cases h32 : l.length ≤ 32
  · have := rangesOk_loop l l [] rfl (by simpa using h)
    rw [decide_eq_true h32, Bool.true_and]
    exact Ev.congr (fun k => by rw [if_neg (by omega)]; rfl) this
  · rw [decide_eq_false h32, Bool.false_and]
    exact Ev.congr (fun k => by rw [if_pos (by omega)]) (Ev.now false)

/-! ### Clean: the place of a range -/
theorem place_split (a b : List S25) (x : S25) (h : ∀ z ∈ a, z.f0 < x.f0) : place (a ++ b) x = a ++ place b x := by
  unfold place
  rw [List.takeWhile_append_of_pos (fun z hz => decide_eq_true (h z hz)), List.dropWhile_append_of_pos (fun z hz => decide_eq_true (h z hz)), List.append_assoc]

theorem clean_l2 (l : List S25) (i : Int) (x : S25) (R : List S25) (rest : List S25) (hlen : rest.length ≤ 1000)
    (K : Ev (fun k => credenzaref14_Clean.l0 k l (place rest x) (wrap64 (i + 1))) R) : ∀ (b a : List S25), rest = a ++ b → (∀ z ∈ a, z.f0 < x.f0) →
    Ev (fun k => credenzaref14_Clean.l2 k l i rest (a.length : Int) x.f0 x.f1) R
  | [], a, e, ha => by
    have hp : place rest x = a ++ [x] := by rw [e, place_split a [] x ha]; rfl
    rw [hp] at K
    rw [List.append_nil] at e
    subst e
    refine Ev.step (fun k => ?_) K
    simp only [credenzaref14_Clean.l2]
    rw [if_neg (by omega), Option.bind_some, if_pos (by omega), if_pos (by omega), Option.bind_some, Int.toNat_natCast, List.take_length, List.nil_append, if_pos (by simp; omega), Option.bind_some, Option.bind_some, if_pos (by simp; omega), Option.bind_some, Option.bind_some, List.drop_length, if_pos (by simp; omega), List.append_nil]
  | z :: b, a, e, ha => by
    have hz : rd_T25 rest (a.length : Int) = z := by rw [e]; exact rd_mid a b z
    have hl : a.length < rest.length := by rw [e]; simp
    by_cases hzx : z.f0 < x.f0
    · have ih := clean_l2 l i x R rest hlen K b (a ++ [z]) (by rw [e]; simp) (fun w hw => by
        rcases List.mem_append.1 hw with hw | hw
        · exact ha w hw
        · rw [List.mem_singleton.1 hw]; exact hzx)
      rw [← nxt_snoc a z (by omega)] at ih
      refine Ev.step (fun k => ?_) ih
      simp only [credenzaref14_Clean.l2]
      rw [if_pos (by omega), if_pos (by omega), hz, if_pos hzx]
    · have hp : place rest x = a ++ x :: z :: b := by
        rw [e, place_split a (z :: b) x ha]
        unfold place
        rw [List.takeWhile_cons_of_neg (by simpa using hzx), List.dropWhile_cons_of_neg (by simpa using hzx)]; rfl
      rw [hp] at K
      have ht : rest.take a.length = a := by rw [e]; exact List.take_left' rfl
      have hd : rest.drop a.length = z :: b := by rw [e]; exact List.drop_left' rfl
      have hrl : rest.length = a.length + (b.length + 1) := by rw [e]; simp
      refine Ev.step (fun k => ?_) K
      simp only [credenzaref14_Clean.l2]
      rw [if_pos (by omega), if_pos (by omega), hz, if_neg hzx, Option.bind_some, if_pos (by omega), Option.bind_some, Int.toNat_natCast, ht, hd, List.nil_append, if_pos (by simp; omega), Option.bind_some, Option.bind_some, if_pos (by simp; omega), Option.bind_some, Option.bind_some, if_pos (by simp; omega), List.append_assoc]
      rfl

theorem clean_l1 (l : List S25) (i : Int) (out : List S25) (R : List S25) (hlen : out.length ≤ 500) : ∀ (b a rest : List S25) (x : S25), out = a ++ b → rest.length ≤ a.length →
    Ev (fun k => credenzaref14_Clean.l0 k l (place (absorb rest x b).1 (absorb rest x b).2) (wrap64 (i + 1))) R →
    (absorb rest x b).1.length ≤ 500 → Ev (fun k => credenzaref14_Clean.l1 k l out i rest (a.length : Int) x.f0 x.f1) R
  | [], a, rest, x, e, hr, K, hl => by
    rw [List.append_nil] at e
    subst e
    have h2 := clean_l2 l i x R rest (by omega) K rest [] rfl (fun z hz => by cases hz)
    refine Ev.step (fun k => ?_) h2
    simp only [credenzaref14_Clean.l1]
    rw [if_neg (by omega)]
    rfl
  | z :: b, a, rest, x, e, hr, K, hl => by
    have hz : rd_T25 out (a.length : Int) = z := by rw [e]; exact rd_mid a b z
    have hol : out.length = a.length + (b.length + 1) := by rw [e]; simp
    have e2 : out = (a ++ [z]) ++ b := by rw [e]; simp
    unfold absorb at K hl
    by_cases hs : sep x z
    · rw [if_pos hs] at K hl
      have ih := clean_l1 l i out R hlen b (a ++ [z]) (rest ++ [z]) x e2 (by simp; omega) K hl
      rw [← nxt_snoc a z (by omega)] at ih
      refine Ev.step (fun k => ?_) ih
      simp only [credenzaref14_Clean.l1]
      rw [if_pos (by omega), if_pos (by omega), hz]
      by_cases h1 : z.f1 < x.f0
      · rw [if_pos h1, Option.bind_some, if_pos (by simp; omega)]
      · have h2 : x.f1 < z.f0 := hs.resolve_left h1
        rw [if_neg h1, if_pos h2, Option.bind_some, if_pos (by simp; omega)]
    · rw [if_neg hs] at K hl
      have ih := clean_l1 l i out R hlen b (a ++ [z]) rest (hull x z) e2 (by simp; omega) K hl
      rw [← nxt_snoc a z (by omega)] at ih
      refine Ev.step (fun k => ?_) ih
      have h1 : ¬ z.f1 < x.f0 := fun h => hs (.inl h)
      have h2 : ¬ x.f1 < z.f0 := fun h => hs (.inr h)
      simp only [credenzaref14_Clean.l1]
      rw [if_pos (by omega), if_pos (by omega), hz, if_neg h1, if_neg h2]
      rfl

theorem absorb_length : ∀ (out rest : List S25) (x : S25), (absorb rest x out).1.length ≤ rest.length + out.length
  | [], rest, x => by simp [absorb]
  | z :: out, rest, x => by
    unfold absorb
    split
    · have := absorb_length out (rest ++ [z]) x
      simp at this ⊢; omega
    · have := absorb_length out rest (hull x z)
      simp; omega
theorem place_length (rest : List S25) (x : S25) : (place rest x).length = rest.length + 1 := by
  have e := congrArg List.length (List.takeWhile_append_dropWhile (p := fun z : S25 => decide (z.f0 < x.f0)) (l := rest))
  rw [List.length_append] at e
  unfold place
  rw [List.length_append, List.length_cons]; omega
theorem ins_length (out : List S25) (x : S25) : (ins out x).length ≤ out.length + 1 := by
  unfold ins
  split
  · omega
  · have := absorb_length out [] x
    rw [place_length]; simp at this; omega

theorem clean_l0 (l : List S25) (hlen : l.length ≤ 400) : ∀ (b a out : List S25), l = a ++ b → out.length ≤ a.length → Ev (fun k => credenzaref14_Clean.l0 k l out (a.length : Int)) (b.foldl ins out)
  | [], a, out, e, ho => by
    rw [List.append_nil] at e
    subst e
    refine Ev.step (f := fun _ => some out) (fun k => ?_) (Ev.now out)
    simp only [credenzaref14_Clean.l0]
    rw [if_neg (by omega)]
  | x :: b, a, out, e, ho => by
    have hx : rd_T25 l (a.length : Int) = x := by rw [e]; exact rd_mid a b x
    have hll : l.length = a.length + (b.length + 1) := by rw [e]; simp
    have ih := clean_l0 l hlen b (a ++ [x]) (ins out x) (by rw [e]; simp) (by have := ins_length out x; simp; omega)
    rw [← nxt_snoc a x (by omega)] at ih
    rw [List.foldl_cons]
    by_cases h : x.f0 = x.f1
    · have hi : ins out x = out := by unfold ins; rw [if_pos h]
      rw [hi] at ih ⊢
      refine Ev.step (fun k => ?_) ih
      simp only [credenzaref14_Clean.l0]
      rw [if_pos (by omega), if_pos (by omega), hx, if_pos h]
    · have hi : ins out x = place (absorb [] x out).1 (absorb [] x out).2 := by unfold ins; rw [if_neg h]
      rw [hi] at ih ⊢
      have hal := absorb_length out [] x
      have h1 := clean_l1 l (a.length : Int) out _ (by omega) out [] [] x rfl (Nat.le_refl _) ih (by simp at hal; omega)
      refine Ev.step (fun k => ?_) h1
      simp only [credenzaref14_Clean.l0]
      rw [if_pos (by omega), if_pos (by omega), hx, if_neg h]
      rfl

def cleanR (l : List S25) : List S25 := if okR l = true then refC l else []
theorem okR_length {l : List S25} (h : okR l = true) : l.length ≤ 32 := by
  unfold okR at h
  simp only [Bool.and_eq_true, decide_eq_true_eq] at h
  exact h.1
theorem okR_all {l : List S25} (h : okR l = true) : ∀ x ∈ l, 0 ≤ x.f0 ∧ x.f0 ≤ x.f1 ∧ x.f1 ≤ 1073741824 := fun x hx => by
  unfold okR at h
  simp only [Bool.and_eq_true, decide_eq_true_eq, Bool.not_eq_true', List.any_eq_false] at h
  have := h.2 x hx
  unfold bad at this
  simp at this
  omega
theorem refClean_ev (l : List S25) (h : l.length ≤ 1000) : Ev (fun k => credenzaref14_Clean.f k l) (cleanR l) := by
  refine Ev.bind (rangesOk_ev l h) ?_
  unfold cleanR
  by_cases ho : okR l = true
  · rw [if_pos ho]
    have := clean_l0 l (by have := okR_length ho; omega) l [] [] rfl (Nat.le_refl _)
    exact Ev.congr (fun k => by rw [if_pos ho]; rfl) this
  · rw [if_neg ho]
    exact Ev.congr (fun k => by rw [if_neg ho]) (Ev.now [])

end Go.Proofs.Yticjkhkmbinmgaa.PureA
