/- BudgetRises: for every two sizes (masked to 16 bits and taken modulo 4001) the pure form of the law answers true.
   No condition beyond the row's own. -/
import Derived.Test.YtdiablgbolffkaaPBudgetRisesx1
import Derived.Test.YtdiablgbolffkaaPureBase
namespace Go.Proofs.Ytdiablgbolffkaa.Pure
open Go.RowKit Go.Proofs.Ytdiablgbolffkaa.PBudgetRises Go.Proofs.YtdiablgbolffkaaW.PrintWords Go.Proofs.YtdiablgbolffkaaW.PrintLast
open Go.Proofs.YtdiablgbolffkaaW.PrintMore
open Go.Proofs.Ytdiablgbolffkaa.PureBase

def blk (x : Int) : Int := if x < 1 then 0 else if x > 1024 then 1 + (x + 127) / 128 else (x + 127) / 128

theorem up_eq (x : Int) (h0 : 0 ≤ x) (h1 : x ≤ 100000) : budget_up.f x 128 = some ((x + 127) / 128) := by
  unfold budget_up.f
  rw [if_neg (by decide), w64 (x := x + 128) (by omega) (by omega), w64 (x := x + 128 - 1) (by omega) (by omega), Int.tdiv_eq_ediv_of_nonneg (by omega), w64 (x := (x + 128 - 1) / 128) (by omega) (by omega)]
  rw [show x + 128 - 1 = x + 127 from by omega]

theorem blocks_eq (x : Int) (h1 : x ≤ 4000) : budget_Blocks.f x = some (blk x) := by
  unfold budget_Blocks.f blk
  by_cases h : x < 1
  · rw [if_pos h, if_pos h]
  rw [if_neg h, if_neg h, if_neg (by omega)]
  by_cases h2 : x > 1024
  · rw [if_pos h2, if_pos h2, up_eq x (by omega) (by omega)]
    rw [Option.bind_some, w64 (x := 0 + 1 + (x + 127) / 128) (by omega) (by omega)]
    rfl
  · rw [if_neg h2, if_neg h2, up_eq x (by omega) (by omega)]
    rw [Option.bind_some, w64 (x := 0 + (x + 127) / 128) (by omega) (by omega)]
    congr 1; omega

theorem blk_lo (x : Int) : 0 ≤ blk x := by unfold blk; split <;> (try split) <;> omega
theorem blk_hi (x : Int) (h : x ≤ 4000) : blk x ≤ 33 := by unfold blk; split <;> (try split) <;> omega
theorem blk_mono (x y : Int) (h : x ≤ y) : blk x ≤ blk y := by unfold blk; (repeat' split) <;> omega

theorem grow_eq (x y : Int) (hx : x ≤ 4000) (hy : y ≤ 4000) : budget_Grow.f x y = some (mx (blk y - blk x) 0) := by
  unfold budget_Grow.f
  rw [blocks_eq y hy, blocks_eq x hx]
  have := blk_lo x; have := blk_lo y; have := blk_hi x hx; have := blk_hi y hy
  rw [Option.bind_some, Option.bind_some, w64 (x := blk y - blk x) (by omega) (by omega)]

theorem awake_rises : credenzalaw6_awake.f 2 = some true := by decide +kernel

theorem rises_at (x y : Int) (h0 : 0 ≤ x) (h : x ≤ y) (hy : y ≤ 4000) : credenzalaw6_BudgetRises.j0 3 x y = some true := by
  simp only [credenzalaw6_BudgetRises.j0]
  rw [blocks_eq x (by omega), blocks_eq y hy, grow_eq x y (by omega) hy, grow_eq y x hy (by omega), awake_rises]
  have a0 := blk_lo x; have a1 := blk_lo y; have a2 := blk_hi x (by omega); have a3 := blk_hi y hy; have a4 := blk_mono x y h
  rw [Option.bind_some, Option.bind_some]
  have m1 : mx (blk y - blk x) 0 = blk y - blk x := by unfold mx; split <;> omega
  have m2 : mx (blk x - blk y) 0 = 0 := by unfold mx; split <;> omega
  rw [m1, m2, w64 (x := blk y - blk x) (by omega) (by omega)]
  by_cases h8 : blk y > 8
  · rw [if_pos h8, if_pos a4, Option.bind_some, if_pos rfl, Option.bind_some, if_pos rfl, w64 (x := blk y - 1) (by omega) (by omega), w64 (x := 128 * (blk y - 1)) (by omega) (by omega), w64 (x := blk y - 1 - 1) (by omega) (by omega), w64 (x := 128 * (blk y - 1 - 1)) (by omega) (by omega)]
    have hb : blk y = 1 + (y + 127) / 128 := by
      unfold blk at h8 ⊢
      split at h8
      · omega
      · split at h8 <;> (rw [if_neg (by omega)]; split <;> omega)
    rw [if_pos (by omega), if_pos (by unfold mx; split <;> omega)]
    rfl
  · have hb : (y < 1 ∧ blk y = 0) ∨ (1 ≤ y ∧ blk y = (y + 127) / 128) := by
      unfold blk at h8 ⊢
      split at h8
      · left; exact ⟨by omega, by rw [if_pos (by omega)]⟩
      · right; split at h8 <;> (refine ⟨by omega, ?_⟩; rw [if_neg (by omega)]; split <;> omega)
    rw [if_neg h8, if_pos a4, Option.bind_some, if_pos rfl, Option.bind_some, if_pos rfl, w64 (x := 128 * blk y) (by omega) (by omega), w64 (x := blk y - 1) (by omega) (by omega), w64 (x := 128 * (blk y - 1)) (by omega) (by omega)]
    rw [if_pos (by omega), if_pos (by unfold mx; split <;> omega)]
    rfl

theorem BudgetRises : credenzalaw6_BudgetRises.Pure := by
  intro a0 a1 _ _
  refine ⟨3, ?_⟩
  unfold credenzalaw6_BudgetRises.f
  rw [and_ffff, and_ffff, Int.tmod_eq_emod_of_nonneg (by omega), Int.tmod_eq_emod_of_nonneg (by omega)]
  by_cases h : a0 % 65536 % 4001 > a1 % 65536 % 4001
  · rw [if_pos h]; exact rises_at _ _ (by omega) (by omega) (by omega)
  · rw [if_neg h]; exact rises_at _ _ (by omega) (by omega) (by omega)

end Go.Proofs.Ytdiablgbolffkaa.Pure
