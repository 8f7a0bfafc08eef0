/- Take: the code's and the document's come to the same. -/
import Derived.Test.YticjkhkmbinmgaaPureC
namespace Go.Proofs.Yticjkhkmbinmgaa.PureD
open Go.RowKit Go.Proofs.YticjkhkmbinmgaaW.PrintWords Go.Proofs.YticjkhkmbinmgaaW.PrintLast Go.Proofs.YticjkhkmbinmgaaW.PrintMore
open Go.Proofs.Yticjkhkmbinmgaa.QClean Go.Proofs.Yticjkhkmbinmgaa.Canon Go.Proofs.Yticjkhkmbinmgaa.PureA Go.Proofs.Yticjkhkmbinmgaa.PureB Go.Proofs.Yticjkhkmbinmgaa.PureC Go.Proofs.Yticjkhkmbinmgaa.RPlace Go.Proofs.Yticjkhkmbinmgaa.STells

theorem take_code (r0 r1 : Int) (hr : r0 < r1) (c : List S25) (hc : Bnd c) (hl : c.length ≤ 1000) : ∀ (b p out : List S25), c = p ++ b → out.length ≤ 2 * p.length →
    Ev (fun k => place_Take.l0 k out c (c.length : Int) (p.length : Int) r0 r1) (out ++ b.flatMap fun x => piecesR x r0 r1)
  | [], p, out, e, ho => by
    rw [List.append_nil] at e
    subst e
    rw [List.flatMap_nil, List.append_nil]
    refine Ev.step (f := fun _ => some out) (fun k => ?_) (Ev.now _)
    simp only [place_Take.l0]
    rw [if_neg (by omega)]
    rfl
  | x :: b, p, out, e, ho => by
    have hx : rd_T25 c (p.length : Int) = x := by rw [e]; exact rd_mid p b x
    have hll : c.length = p.length + (b.length + 1) := by rw [e]; simp
    have hb := hc x (by rw [e]; simp)
    have hpl := pieces_length x r0 r1
    have ih := take_code r0 r1 hr c hc hl b (p ++ [x]) (out ++ piecesR x r0 r1) (by rw [e]; simp) (by simp; omega)
    rw [← nxt_snoc p x (by omega), List.append_assoc] at ih
    rw [List.flatMap_cons]
    have hd : Ev (fun k => (place_lies.f k x.f0 x.f1 r0 r1).bind fun t137 => (if t137 = 0 then (if out.length < 8796093022208 then (place_Take.l0 k (out ++ [(⟨x.f0, x.f1⟩ : S25)]) c (c.length : Int) (wrap64 ((p.length : Int) + 1)) r0 r1) else (none)) else (if t137 = 3 then (place_Take.j1 k out t137 c (c.length : Int) (p.length : Int) t137 (t137 == 3) r0 r1 x.f0 x.f1) else (place_Take.j1 k out t137 c (c.length : Int) (p.length : Int) t137 (t137 == 1) r0 r1 x.f0 x.f1)))) (out ++ (piecesR x r0 r1 ++ b.flatMap fun x => piecesR x r0 r1)) := by
      refine Ev.bind (lies_ev x r0 r1) ?_
      unfold liesR
      unfold piecesR at ih ⊢
      unfold mn mx at ih ⊢
      by_cases h1 : r1 ≤ x.f0 ∨ x.f1 ≤ r0
      · rw [if_pos h1]
        have e1 : ((if x.f0 < (if r0 < x.f1 then r0 else x.f1) then [(⟨x.f0, if r0 < x.f1 then r0 else x.f1⟩ : S25)] else []) ++ (if (if x.f0 < r1 then r1 else x.f0) < x.f1 then [(⟨if x.f0 < r1 then r1 else x.f0, x.f1⟩ : S25)] else [])) = [x] := by
          by_cases h2 : x.f1 ≤ r0
          · have a1 : ¬ r0 < x.f1 := by omega
            have a2 : x.f0 < r1 := by omega
            have a3 : ¬ r1 < x.f1 := by omega
            simp only [a1, a2, a3, if_true, if_false, hb.2.1, List.append_nil]
          · have h3 : r1 ≤ x.f0 := h1.resolve_right h2
            have a1 : r0 < x.f1 := by omega
            have a2 : ¬ x.f0 < r1 := by omega
            have a3 : ¬ x.f0 < r0 := by omega
            simp only [a1, a2, a3, if_true, if_false, hb.2.1, List.nil_append]
        rw [e1] at ih ⊢
        exact Ev.congr (fun k => by rw [if_pos rfl, if_pos (by omega)]) ih
      · rw [if_neg h1]
        have a1 : r0 < x.f1 := by omega
        have a2 : x.f0 < r1 := by omega
        by_cases h2 : x.f0 < r0
        · by_cases h3 : r1 < x.f1
          · simp only [a1, a2, h2, h3, if_true] at ih ⊢
            refine Ev.congr (f := fun k => place_Take.j1 k out 3 c (c.length : Int) (p.length : Int) 3 true r0 r1 x.f0 x.f1) (fun k => by rw [if_neg (by decide)]; rfl) (Ev.step (fun k => ?_) ih)
            simp only [place_Take.j1]
            rw [if_pos trivial, if_pos (by omega), Option.bind_some, if_neg (by decide), if_pos (by simp; omega), List.append_assoc]
          · simp only [a1, a2, h2, h3, if_true, if_false] at ih ⊢
            refine Ev.congr (f := fun k => place_Take.j1 k out 1 c (c.length : Int) (p.length : Int) 1 true r0 r1 x.f0 x.f1) (fun k => by rw [if_neg (by decide), if_neg (by decide)]; rfl) (Ev.step (fun k => ?_) ih)
            simp only [place_Take.j1]
            rw [if_pos trivial, if_pos (by omega), Option.bind_some, if_pos trivial, List.append_nil]
        · by_cases h3 : r1 < x.f1
          · simp only [a1, a2, h2, h3, if_true, if_false] at ih ⊢
            refine Ev.congr (f := fun k => place_Take.j1 k out 2 c (c.length : Int) (p.length : Int) 2 false r0 r1 x.f0 x.f1) (fun k => by rw [if_neg (by decide), if_neg (by decide)]; rfl) (Ev.step (fun k => ?_) ih)
            simp only [place_Take.j1]
            rw [if_neg (by decide), if_pos trivial, if_pos (by omega), List.nil_append]
          · simp only [a1, a2, h2, h3, if_true, if_false] at ih ⊢
            refine Ev.congr (f := fun k => place_Take.j1 k out 4 c (c.length : Int) (p.length : Int) 4 false r0 r1 x.f0 x.f1) (fun k => by rw [if_neg (by decide), if_neg (by decide)]; rfl) (Ev.step (fun k => ?_) ih)
            simp only [place_Take.j1]
            rw [if_neg (by decide), if_neg (by decide), List.append_nil, List.append_nil]
    refine Ev.step (fun k => ?_) hd
    simp only [place_Take.l0]
    rw [if_pos (by omega), if_pos (by omega), if_pos (by omega), hx]

theorem take_ref (r0 r1 : Int) (c : List S25) (hl : c.length ≤ 1000) : ∀ (b p out : List S25), c = p ++ b → out.length ≤ 2 * p.length →
    Ev (fun k => credenzaref14_Take.l0 k c out (p.length : Int) r0 r1) (out ++ b.flatMap fun x => piecesR x r0 r1)
  | [], p, out, e, ho => by
    rw [List.append_nil] at e
    subst e
    rw [List.flatMap_nil, List.append_nil]
    refine Ev.step (f := fun _ => some out) (fun k => ?_) (Ev.now _)
    simp only [credenzaref14_Take.l0]
    rw [if_neg (by omega)]
  | x :: b, p, out, e, ho => by
    have hx : rd_T25 c (p.length : Int) = x := by rw [e]; exact rd_mid p b x
    have hll : c.length = p.length + (b.length + 1) := by rw [e]; simp
    have hpl := pieces_length x r0 r1
    have ih := take_ref r0 r1 c hl b (p ++ [x]) (out ++ piecesR x r0 r1) (by rw [e]; simp) (by simp; omega)
    rw [← nxt_snoc p x (by omega), List.append_assoc] at ih
    rw [List.flatMap_cons]
    unfold piecesR at ih ⊢
    refine Ev.step (fun k => ?_) ih
    simp only [credenzaref14_Take.l0]
    rw [if_pos (by omega), if_pos (by omega), hx]
    by_cases h1 : x.f0 < mn x.f1 r0
    · rw [if_pos h1, if_pos (by omega), Option.bind_some, if_pos h1]
      by_cases h2 : mx x.f0 r1 < x.f1
      · rw [if_pos h2, if_pos (by simp; omega), if_pos h2, List.append_assoc]
      · rw [if_neg h2, if_neg h2, List.append_nil]
    · rw [if_neg h1, if_neg h1]
      by_cases h2 : mx x.f0 r1 < x.f1
      · rw [if_pos h2, if_pos (by omega), if_pos h2, List.nil_append]
      · rw [if_neg h2, if_neg h2, List.append_nil, List.append_nil]

def takeA (l : List S25) (r0 r1 : Int) : List S25 := if r1 ≤ r0 then cleanR l else (cleanR l).flatMap fun x => piecesR x r0 r1
theorem takeA_length (l : List S25) (r0 r1 : Int) : (takeA l r0 r1).length ≤ 100000 := by
  have hc := clean_length l
  unfold takeA
  split
  · omega
  · have : ∀ c : List S25, (c.flatMap fun x => piecesR x r0 r1).length ≤ 2 * c.length := by
      intro c
      induction c with
      | nil => simp
      | cons x c ih => have := pieces_length x r0 r1; simp only [List.flatMap_cons, List.length_append, List.length_cons]; omega
    have := this (cleanR l)
    omega
theorem takeA_code (l : List S25) (r0 r1 : Int) : Ev (fun k => place_Take.f k l r0 r1) (takeA l r0 r1) := by
  refine Ev.bind (clean_ev l) ?_
  unfold takeA
  by_cases h : r1 ≤ r0
  · rw [if_pos h]; exact Ev.congr (fun k => by rw [if_pos h]) (Ev.now _)
  · rw [if_neg h]
    have := take_code r0 r1 (by omega) (cleanR l) (clean_bounds l) (clean_length l) (cleanR l) [] [] rfl (Nat.zero_le _)
    exact Ev.congr (fun k => by rw [if_neg h]; rfl) this
theorem takeA_ref (l : List S25) (r0 r1 : Int) (hl : l.length ≤ 1000) : Ev (fun k => credenzaref14_Take.f k l r0 r1) (takeA l r0 r1) := by
  refine Ev.bind (refClean_ev l hl) ?_
  unfold takeA
  by_cases h : r1 ≤ r0
  · rw [if_pos h]; exact Ev.congr (fun k => by rw [if_pos h]) (Ev.now _)
  · rw [if_neg h]
    have := take_ref r0 r1 (cleanR l) (clean_length l) (cleanR l) [] [] rfl (Nat.zero_le _)
    exact Ev.congr (fun k => by rw [if_neg h]; rfl) this

theorem awake_40 : credenzalaw18_awake.f 40 = some true := by decide +kernel
theorem awake_ev : Ev (fun k => credenzalaw18_awake.f k) true := Ev.of (fun k => credenzalaw18_awake.mono k) awake_40

end Go.Proofs.Yticjkhkmbinmgaa.PureD
