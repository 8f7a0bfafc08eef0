/- BudgetMay: for every free, reserve and need (masked to 20, 12 and 20 bits) the pure form of the law answers true.
   No condition beyond the row's own. -/
import Derived.Test.YtdiablgbolffkaaPBudgetMayx1
import Derived.Test.YtdiablgbolffkaaPureBase
namespace Go.Proofs.Ytdiablgbolffkaa.Pure
open Go.RowKit Go.Proofs.Ytdiablgbolffkaa.PBudgetMay Go.Proofs.YtdiablgbolffkaaW.PrintWords Go.Proofs.YtdiablgbolffkaaW.PrintLast
open Go.Proofs.Ytdiablgbolffkaa.PureBase

theorem may_all (a b c : Int) : budget_May.f a b c true = some (decide (c < 1 ∨ c ≤ a)) := by
  unfold budget_May.f
  by_cases h1 : c < 1
  · rw [if_pos h1, decide_eq_true (Or.inl h1)]
  rw [if_neg h1]
  by_cases h2 : c > a
  · rw [if_pos h2, decide_eq_false (by omega)]
  rw [if_neg h2, if_pos rfl, decide_eq_true (Or.inr (by omega))]

theorem may_some (a b c : Int) (ha : 0 ≤ a) (ha' : a ≤ 2000000) (hb : 0 ≤ b) (hb' : b ≤ 2000000) :
    budget_May.f a b c false = some (decide (c < 1 ∨ c + b ≤ a)) := by
  unfold budget_May.f
  by_cases h1 : c < 1
  · rw [if_pos h1, decide_eq_true (Or.inl h1)]
  rw [if_neg h1]
  by_cases h2 : c > a
  · rw [if_pos h2, decide_eq_false (by omega)]
  rw [if_neg h2, if_neg (by decide)]
  by_cases h3 : b ≤ 0
  · rw [if_pos h3, decide_eq_true (Or.inr (by omega))]
  rw [if_neg h3]
  by_cases h4 : b ≤ a
  · rw [if_pos h4, w64 (x := a - b) (by omega) (by omega)]
    congr 1
    apply decide_eq_decide.mpr
    omega
  · rw [if_neg h4, decide_eq_false (by omega)]

theorem awake_may : credenzalaw6_awake.f 2 = some true := by decide +kernel

theorem may_at (a b c : Int) (ha : 0 ≤ a) (ha' : a ≤ 2000000) (hb : 0 ≤ b) (hb' : b ≤ 2000000) (hc : 0 ≤ c) (hc' : c ≤ 2000000) (x7 : Bool)
    (hx : c + 1 + b ≤ a → x7 = true) : credenzalaw6_BudgetMay.j0 3 a b c x7 false = some true := by
  simp only [credenzalaw6_BudgetMay.j0]
  rw [if_neg (by decide), w64 (x := c + 1) (by omega) (by omega), w64 (x := -c) (by omega) (by omega), may_some a b _ ha ha' hb hb', may_some a b _ ha ha' hb hb', may_all, awake_may]
  rw [decide_eq_true (p := (0 : Int) < 1 ∨ 0 + b ≤ a) (Or.inl (by decide)), decide_eq_true (p := -c < 1 ∨ -c ≤ a) (Or.inl (by omega))]
  rw [Option.bind_some]
  by_cases h : c + 1 < 1 ∨ c + 1 + b ≤ a
  · rw [decide_eq_true h, if_pos rfl, if_pos (hx (by omega))]; rfl
  · rw [decide_eq_false h]; rfl

theorem BudgetMay : credenzalaw6_BudgetMay.Pure := by
  intro a0 a1 a2 _ _ _
  refine ⟨3, ?_⟩
  unfold credenzalaw6_BudgetMay.f
  rw [and_fffff, and_fff, and_fffff]
  have ha0 : 0 ≤ a0 % 1048576 := by omega
  have ha1 : a0 % 1048576 < 1048576 := by omega
  have hb0 : 0 ≤ a1 % 4096 := by omega
  have hb1 : a1 % 4096 < 4096 := by omega
  have hc0 : 0 ≤ a2 % 1048576 := by omega
  have hc1 : a2 % 1048576 < 1048576 := by omega
  generalize a0 % 1048576 = a at *
  generalize a1 % 4096 = b at *
  generalize a2 % 1048576 = c at *
  rw [may_some a b c ha0 (by omega) hb0 (by omega), may_all]
  rw [Option.bind_some, Option.bind_some, w64 (x := c + b) (by omega) (by omega)]
  have hj := fun x7 => may_at a b c ha0 (by omega) hb0 (by omega) hc0 (by omega) x7
  by_cases h1 : c < 1
  · rw [decide_eq_true (p := c < 1 ∨ c + b ≤ a) (Or.inl h1), decide_eq_true (p := c < 1 ∨ c ≤ a) (Or.inl h1), decide_eq_true (p := c ≤ a) (by omega)]
    rw [if_pos rfl, if_pos rfl, if_neg (by decide), if_pos h1]
    exact hj true (fun _ => rfl)
  · by_cases h5 : c + b ≤ a
    · rw [decide_eq_true (p := c < 1 ∨ c + b ≤ a) (Or.inr h5), decide_eq_true (p := c < 1 ∨ c ≤ a) (Or.inr (by omega)), decide_eq_true (p := c ≤ a) (by omega), decide_eq_true (p := c + b ≤ a) h5]
      rw [if_pos rfl, if_pos rfl, if_neg (by decide), if_neg h1]
      exact hj true (fun _ => rfl)
    · rw [decide_eq_false (p := c < 1 ∨ c + b ≤ a) (by omega), decide_eq_false (p := c + b ≤ a) h5]
      have e : decide (c < 1 ∨ c ≤ a) = decide (c ≤ a) := decide_eq_decide.mpr (by omega)
      rw [e, if_neg (by decide), if_neg (by simp), if_neg h1]
      exact hj false (fun h => by omega)

end Go.Proofs.Ytdiablgbolffkaa.Pure
