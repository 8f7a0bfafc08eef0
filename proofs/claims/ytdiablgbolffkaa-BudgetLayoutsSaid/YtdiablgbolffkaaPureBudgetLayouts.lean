/- BudgetLayouts: for every number of blocks (masked to 11 bits, modulo 1800, plus 240) and of inodes (masked to 8 bits, modulo 100, plus 8) the pure form of the law answers true.
   No condition beyond the row's own. -/
import Derived.Test.YtdiablgbolffkaaPBudgetLayoutsx1
import Derived.Test.YtdiablgbolffkaaPureBase
namespace Go.Proofs.Ytdiablgbolffkaa.Pure
open Go.RowKit Go.Proofs.Ytdiablgbolffkaa.PBudgetLayouts Go.Proofs.YtdiablgbolffkaaW.PrintWords Go.Proofs.YtdiablgbolffkaaW.PrintLast
open Go.Proofs.Ytdiablgbolffkaa.PureBase

theorem up_lay (x : Int) (h0 : 0 ≤ x) (h1 : x ≤ 100000) : budget_up.f x 1024 = some ((x + 1023) / 1024) := by
  unfold budget_up.f
  rw [if_neg (by decide), w64 (x := x + 1024) (by omega) (by omega), w64 (x := x + 1024 - 1) (by omega) (by omega), Int.tdiv_eq_ediv_of_nonneg (by omega), w64 (x := (x + 1024 - 1) / 1024) (by omega) (by omega)]
  rw [show x + 1024 - 1 = x + 1023 from by omega]

theorem layout_ok (b i : Int) (k : Nat) (h0 : 240 ≤ b) (h1 : b ≤ 2048) (h2 : 8 ≤ i) (h3 : i ≤ 120) :
    budget_Layout.f (k + 1) b i = some (b - 96 - i - (b + 1023) / 1024, true) := by
  unfold budget_Layout.f
  rw [if_neg (by omega), if_neg (by omega), if_neg (by omega), decide_eq_false (p := i > 200) (by omega)]
  simp only [budget_Layout.j0]
  rw [if_neg (by decide), up_lay b (by omega) (by omega), Option.bind_some, w64 (x := b - 96) (by omega) (by omega), w64 (x := b - 96 - i) (by omega) (by omega),
    w64 (x := b - 96 - i - (b + 1023) / 1024) (by omega) (by omega), if_neg (by omega)]

theorem awake_lay : credenzalaw6_awake.f 2 = some true := by decide +kernel

theorem BudgetLayouts : credenzalaw6_BudgetLayouts.Pure := by
  intro a0 a1 _ _
  refine ⟨2, ?_⟩
  unfold credenzalaw6_BudgetLayouts.f
  rw [and_7ff, and_ff, Int.tmod_eq_emod_of_nonneg (by omega), Int.tmod_eq_emod_of_nonneg (by omega)]
  rw [w64 (x := a0 % 2048 % 1800 + 240) (by omega) (by omega), w64 (x := a1 % 256 % 100 + 8) (by omega) (by omega)]
  have hb0 : 240 ≤ a0 % 2048 % 1800 + 240 := by omega
  have hb1 : a0 % 2048 % 1800 + 240 ≤ 2039 := by omega
  have hi0 : 8 ≤ a1 % 256 % 100 + 8 := by omega
  have hi1 : a1 % 256 % 100 + 8 ≤ 107 := by omega
  generalize a0 % 2048 % 1800 + 240 = b at *
  generalize a1 % 256 % 100 + 8 = i at *
  rw [w64 (x := b + 1) (by omega) (by omega), w64 (x := i + 1) (by omega) (by omega)]
  rw [layout_ok b i 1 hb0 (by omega) hi0 (by omega), layout_ok (b + 1) i 1 (by omega) (by omega) hi0 (by omega), layout_ok b (i + 1) 1 hb0 (by omega) (by omega) (by omega), awake_lay]
  rw [Option.bind_some, Option.bind_some, Option.bind_some]
  dsimp only
  rw [if_pos rfl, if_pos rfl, if_pos rfl]
  rw [w64 (x := b - 96 - i - (b + 1023) / 1024 + i) (by omega) (by omega), w64 (x := b - 96 - i - (b + 1023) / 1024 + i + 96) (by omega) (by omega),
    w64 (x := b + 1023) (by omega) (by omega), Int.tdiv_eq_ediv_of_nonneg (by omega), w64 (x := (b + 1023) / 1024) (by omega) (by omega),
    w64 (x := b - 96 - i - (b + 1023) / 1024 + i + 96 + (b + 1023) / 1024) (by omega) (by omega),
    w64 (x := b - 96 - i - (b + 1023) / 1024 - 1) (by omega) (by omega), w64 (x := b - 96 - i - (b + 1023) / 1024 + 1) (by omega) (by omega)]
  rw [w64 (x := b + 1024) (by omega) (by omega), Int.tdiv_eq_ediv_of_nonneg (by omega), w64 (x := (b + 1024) / 1024) (by omega) (by omega),
    w64 (x := (b + 1023) / 1024 + 1) (by omega) (by omega)]
  rw [if_pos (by omega), if_pos (by omega)]
  by_cases h : b = 2048
  · rw [if_pos h]; rfl
  rw [if_neg h]
  by_cases h2 : (b + 1024) / 1024 = (b + 1023) / 1024 + 1
  · by_cases h3 : b + 1 - 96 - i - (b + 1 + 1023) / 1024 = b - 96 - i - (b + 1023) / 1024 + 1
    · rw [if_pos h3]; rfl
    · rw [if_neg h3, if_pos (by omega), if_pos h2]; rfl
  · rw [if_pos (by omega)]; rfl

end Go.Proofs.Ytdiablgbolffkaa.Pure
