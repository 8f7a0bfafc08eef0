/- Find and Take: the code's and the document's come to the same. Condition: at most 1000 ranges. -/
import Derived.Test.YticjkhkmbinmgaaPureB
namespace Go.Proofs.Yticjkhkmbinmgaa.PureC
open Go.RowKit Go.Proofs.YticjkhkmbinmgaaW.PrintWords Go.Proofs.YticjkhkmbinmgaaW.PrintLast Go.Proofs.YticjkhkmbinmgaaW.PrintMore
open Go.Proofs.Yticjkhkmbinmgaa.QClean Go.Proofs.Yticjkhkmbinmgaa.Canon Go.Proofs.Yticjkhkmbinmgaa.PureA Go.Proofs.Yticjkhkmbinmgaa.PureB Go.Proofs.Yticjkhkmbinmgaa.RPlace Go.Proofs.Yticjkhkmbinmgaa.STells
open Go.Proofs.Yticjkhkmbinmgaa.GivenA (okR bad place_Ok.f)

def upR (n : Int) : Int := (n + 15) / 16 * 16
theorem up_code (n : Int) (h0 : 0 ≤ n) (h1 : n ≤ 1073741824) : place_up.f n = some (upR n) := by
  unfold place_up.f upR
  have e1 : wrap64 (n + 16) = n + 16 := by unfold wrap64; omega
  have e2 : wrap64 (n + 16 - 1) = n + 15 := by unfold wrap64; omega
  rw [e1, e2, Int.tdiv_eq_ediv_of_nonneg (by omega)]
  have e3 : wrap64 ((n + 15) / 16) = (n + 15) / 16 := by unfold wrap64; omega
  rw [e3]
  congr 1
  unfold wrap64; omega
theorem up_ref (n : Int) (h0 : 0 ≤ n) (h1 : n ≤ 1073741824) : credenzaref14_up.f n = some (upR n) := by
  unfold credenzaref14_up.f upR
  have e2 : wrap64 (n + 15) = n + 15 := by unfold wrap64; omega
  rw [e2, Int.tdiv_eq_ediv_of_nonneg (by omega)]
  have e3 : wrap64 ((n + 15) / 16) = (n + 15) / 16 := by unfold wrap64; omega
  rw [e3]
  congr 1
  unfold wrap64; omega
theorem up_bounds (n : Int) (h0 : 0 ≤ n) (h1 : n ≤ 1073741824) : n ≤ upR n ∧ upR n ≤ 1073741839 ∧ upR n < n + 16 := by
  unfold upR; omega
theorem mx_one (a : Int) : 1 ≤ mx a 1 ∧ a ≤ mx a 1 ∧ (mx a 1 = a ∨ mx a 1 = 1) := by unfold mx; split <;> omega

def findR : List S25 → Int → Int × Bool
  | [], _ => (0, false)
  | x :: c, m => if upR x.f0 + m ≤ x.f1 then (upR x.f0, true) else findR c m
def Bnd (c : List S25) : Prop := ∀ x ∈ c, 0 ≤ x.f0 ∧ x.f0 < x.f1 ∧ x.f1 ≤ 1073741824

theorem find_code (a : Int) (h0 : 0 ≤ a) (h1 : a ≤ 1073741824) (c : List S25) (hc : Bnd c) (hl : c.length ≤ 1000) : ∀ (b p : List S25), c = p ++ b →
    Ev (fun k => place_Find.l0 k a c (c.length : Int) (p.length : Int)) (findR b (mx a 1))
  | [], p, e => by
    rw [List.append_nil] at e
    subst e
    refine Ev.step (f := fun _ => some (0, false)) (fun k => ?_) (Ev.now _)
    simp only [place_Find.l0]
    rw [if_neg (by omega)]
  | x :: b, p, e => by
    have hx : rd_T25 c (p.length : Int) = x := by rw [e]; exact rd_mid p b x
    have hll : c.length = p.length + (b.length + 1) := by rw [e]; simp
    have hb := hc x (by rw [e]; simp)
    have ih := find_code a h0 h1 c hc hl b (p ++ [x]) (by rw [e]; simp)
    rw [← nxt_snoc p x (by omega)] at ih
    have hu := up_bounds x.f0 hb.1 (by omega)
    have hm := mx_one a
    have hw : wrap64 (upR x.f0 + mx a 1) = upR x.f0 + mx a 1 := by unfold wrap64; omega
    unfold findR
    by_cases h : upR x.f0 + mx a 1 ≤ x.f1
    · rw [if_pos h]
      refine Ev.step (f := fun _ => some (upR x.f0, true)) (fun k => ?_) (Ev.now _)
      simp only [place_Find.l0]
      rw [if_pos (by omega), if_pos (by omega), if_pos (by omega), hx, up_code _ hb.1 (by omega), Option.bind_some, hw, if_pos h]
    · rw [if_neg h]
      refine Ev.step (fun k => ?_) ih
      simp only [place_Find.l0]
      rw [if_pos (by omega), if_pos (by omega), if_pos (by omega), hx, up_code _ hb.1 (by omega), Option.bind_some, hw, if_neg h]
theorem find_ref (a : Int) (c : List S25) (hc : Bnd c) (hl : c.length ≤ 1000) : ∀ (b p : List S25), c = p ++ b →
    Ev (fun k => credenzaref14_Find.l0 k a c (p.length : Int)) (findR b (mx a 1))
  | [], p, e => by
    rw [List.append_nil] at e
    subst e
    refine Ev.step (f := fun _ => some (0, false)) (fun k => ?_) (Ev.now _)
    simp only [credenzaref14_Find.l0]
    rw [if_neg (by omega)]
  | x :: b, p, e => by
    have hx : rd_T25 c (p.length : Int) = x := by rw [e]; exact rd_mid p b x
    have hll : c.length = p.length + (b.length + 1) := by rw [e]; simp
    have hb := hc x (by rw [e]; simp)
    have ih := find_ref a c hc hl b (p ++ [x]) (by rw [e]; simp)
    rw [← nxt_snoc p x (by omega)] at ih
    have hu := up_bounds x.f0 hb.1 (by omega)
    have hm := mx_one a
    have hw : wrap64 (x.f1 - upR x.f0) = x.f1 - upR x.f0 := by unfold wrap64; omega
    unfold findR
    by_cases h : upR x.f0 + mx a 1 ≤ x.f1
    · rw [if_pos h]
      refine Ev.step (f := fun _ => some (upR x.f0, true)) (fun k => ?_) (Ev.now _)
      simp only [credenzaref14_Find.l0]
      rw [if_pos (by omega), if_pos (by omega), hx, up_ref _ hb.1 (by omega), Option.bind_some, if_pos (by omega), hw, if_pos (by omega)]
    · rw [if_neg h]
      refine Ev.step (fun k => ?_) ih
      simp only [credenzaref14_Find.l0]
      rw [if_pos (by omega), if_pos (by omega), hx, up_ref _ hb.1 (by omega), Option.bind_some]
      by_cases h2 : upR x.f0 < x.f1
      · rw [if_pos h2, hw, if_neg (by omega)]
      · rw [if_neg h2]
theorem findR_big : ∀ (c : List S25) (m : Int), Bnd c → 1073741824 < m → findR c m = (0, false)
  | [], _, _, _ => rfl
  | x :: c, m, hc, hm => by
    have hb := hc x (by simp)
    have hu := up_bounds x.f0 hb.1 (by omega)
    unfold findR
    rw [if_neg (by omega)]
    exact findR_big c m (fun y hy => hc y (by simp [hy])) hm

def findA (l : List S25) (a : Int) : Int × Bool := if a < 0 then (0, false) else findR (cleanR l) (mx a 1)
theorem findA_code (l : List S25) (a : Int) : Ev (fun k => place_Find.f k l a) (findA l a) := by
  have yes : Ev (fun k => place_Find.j0 k l a true) (0, false) := Ev.step (f := fun _ => some (0, false)) (fun k => by simp only [place_Find.j0]; rw [if_pos trivial]) (Ev.now _)
  unfold place_Find.f findA
  by_cases h0 : a < 0
  · rw [if_pos h0]; exact Ev.congr (fun k => by rw [if_pos h0]) yes
  rw [if_neg h0]
  by_cases h1 : a > 1073741824
  · have hm := mx_one a
    rw [findR_big _ _ (clean_bounds l) (by omega)]
    exact Ev.congr (fun k => by rw [if_neg h0, decide_eq_true h1]) yes
  · have hf := find_code a (by omega) (by omega) (cleanR l) (clean_bounds l) (clean_length l) (cleanR l) [] rfl
    have hb := Ev.bind (clean_ev l) (f := fun k t => place_Find.l0 k a t (t.length : Int) 0) hf
    refine Ev.congr (f := fun k => place_Find.j0 k l a false) (fun k => by rw [if_neg h0, decide_eq_false h1]) (Ev.step (fun k => ?_) hb)
    simp only [place_Find.j0]
    rw [if_neg (by decide)]
theorem findA_ref (l : List S25) (a : Int) (hl : l.length ≤ 1000) : Ev (fun k => credenzaref14_Find.f k l a) (findA l a) := by
  have yes : Ev (fun k => credenzaref14_Find.j0 k l a true) (0, false) := Ev.step (f := fun _ => some (0, false)) (fun k => by simp only [credenzaref14_Find.j0]; rw [if_pos trivial]) (Ev.now _)
  refine Ev.bind (rangesOk_ev l hl) ?_
  unfold findA
  by_cases ho : okR l = true
  · by_cases h0 : a < 0
    · rw [if_pos h0]; exact Ev.congr (fun k => by rw [if_pos ho, decide_eq_true h0]) yes
    rw [if_neg h0]
    have hf := find_ref a (cleanR l) (clean_bounds l) (clean_length l) (cleanR l) [] rfl
    have hb := Ev.bind (refClean_ev l hl) (f := fun k t => credenzaref14_Find.l0 k a t 0) hf
    refine Ev.congr (f := fun k => credenzaref14_Find.j0 k l a false) (fun k => by rw [if_pos ho, decide_eq_false h0]) (Ev.step (fun k => ?_) hb)
    simp only [credenzaref14_Find.j0]
    rw [if_neg (by decide)]
  · have hc : cleanR l = [] := by unfold cleanR; rw [if_neg ho]
    have : (if a < 0 then ((0 : Int), false) else findR (cleanR l) (mx a 1)) = (0, false) := by rw [hc]; split <;> rfl
    rw [this]
    exact Ev.congr (fun k => by rw [if_neg ho]) yes

/-! ### Take -/
def piecesR (x : S25) (r0 r1 : Int) : List S25 := (if x.f0 < mn x.f1 r0 then [⟨x.f0, mn x.f1 r0⟩] else []) ++ (if mx x.f0 r1 < x.f1 then [⟨mx x.f0 r1, x.f1⟩] else [])
theorem pieces_length (x : S25) (r0 r1 : Int) : (piecesR x r0 r1).length ≤ 2 := by
  unfold piecesR
  split <;> split <;> simp
def liesR (x : S25) (r0 r1 : Int) : Int := if r1 ≤ x.f0 ∨ x.f1 ≤ r0 then 0 else if x.f0 < r0 then (if r1 < x.f1 then 3 else 1) else (if r1 < x.f1 then 2 else 4)
theorem lies_ev (x : S25) (r0 r1 : Int) : Ev (fun k => place_lies.f k x.f0 x.f1 r0 r1) (liesR x r0 r1) := by
  have j0t : Ev (fun k => place_lies.j0 k true x.f0 x.f1 r0 r1) 0 := Ev.step (f := fun _ => some 0) (fun k => by simp only [place_lies.j0]; rw [if_pos trivial]) (Ev.now _)
  have j1 : ∀ t : Bool, Ev (fun k => place_lies.j1 k t x.f0 x.f1 r0 r1) (if t = true then 3 else if x.f0 < r0 then 1 else if r1 < x.f1 then 2 else 4) := fun t => by
    refine Ev.step (f := fun _ => some (if t = true then 3 else if x.f0 < r0 then 1 else if r1 < x.f1 then 2 else 4)) (fun k => ?_) (Ev.now _)
    simp only [place_lies.j1]
    by_cases h1 : t = true
    · rw [if_pos h1, if_pos h1]
    rw [if_neg h1, if_neg h1]
    by_cases h2 : x.f0 < r0
    · rw [if_pos h2, if_pos h2]
    rw [if_neg h2, if_neg h2]
    by_cases h3 : r1 < x.f1
    · rw [if_pos h3, if_pos h3]
    · rw [if_neg h3, if_neg h3]
  unfold place_lies.f liesR
  by_cases h1 : r1 ≤ x.f0
  · rw [if_pos (.inl h1)]; exact Ev.congr (fun k => by rw [if_pos h1]) j0t
  by_cases h2 : x.f1 ≤ r0
  · rw [if_pos (.inr h2)]; exact Ev.congr (fun k => by rw [if_neg h1, decide_eq_true (show r0 ≥ x.f1 from h2)]) j0t
  rw [if_neg (by omega)]
  by_cases h3 : x.f0 < r0
  · rw [if_pos h3]
    refine Ev.congr (f := fun k => place_lies.j0 k false x.f0 x.f1 r0 r1) (fun k => by rw [if_neg h1, decide_eq_false (show ¬ r0 ≥ x.f1 from h2)]) (Ev.step (f := fun k => place_lies.j1 k (decide (r1 < x.f1)) x.f0 x.f1 r0 r1) (fun k => by simp only [place_lies.j0]; rw [if_neg (by decide), if_pos h3]) ?_)
    have := j1 (decide (r1 < x.f1))
    by_cases h4 : r1 < x.f1
    · rw [decide_eq_true h4, if_pos rfl] at this; rw [if_pos h4, decide_eq_true h4]; exact this
    · rw [decide_eq_false h4, if_neg (by decide), if_pos h3] at this; rw [if_neg h4, decide_eq_false h4]; exact this
  · rw [if_neg h3]
    refine Ev.congr (f := fun k => place_lies.j0 k false x.f0 x.f1 r0 r1) (fun k => by rw [if_neg h1, decide_eq_false (show ¬ r0 ≥ x.f1 from h2)]) (Ev.step (f := fun k => place_lies.j1 k false x.f0 x.f1 r0 r1) (fun k => by simp only [place_lies.j0]; rw [if_neg (by decide), if_neg h3]) ?_)
    have := j1 false
    rw [if_neg (by decide), if_neg h3] at this
    exact this

end Go.Proofs.Yticjkhkmbinmgaa.PureC
