/- BudgetTells: for every six arguments (five integers of 64 bits, one bool) the program's numbers of blocks are the document's: the pure form of the law answers true.
   No condition beyond the row's own. -/
import Derived.Test.YtdiablgbolffkaaPBudgetTellsx2
import Derived.Test.YtdiablgbolffkaaPureBase
namespace Go.Proofs.Ytdiablgbolffkaa.Pure
open Go.RowKit Go.Proofs.Ytdiablgbolffkaa.PBudgetTells Go.Proofs.YtdiablgbolffkaaW.PrintWords Go.Proofs.YtdiablgbolffkaaW.PrintLast
open Go.Proofs.YtdiablgbolffkaaW.PrintMore
open Go.Proofs.Ytdiablgbolffkaa.PureBase

def blk (x : Int) : Int := if x < 1 then 0 else if x > 4000 then 33 else if x > 1024 then 1 + (x + 127) / 128 else (x + 127) / 128

theorem up_tell (x e : Int) (h0 : 0 ≤ x) (h1 : x ≤ 100000) (he : 1 ≤ e) (he' : e ≤ 2000) : budget_up.f x e = some ((x + e - 1) / e) := by
  unfold budget_up.f
  have hd0 : 0 ≤ (x + e - 1) / e := Int.ediv_nonneg (by omega) (by omega)
  have hd1 : (x + e - 1) / e ≤ x + e - 1 := Int.ediv_le_self _ (by omega)
  rw [if_neg (by omega), w64 (x := x + e) (by omega) (by omega), w64 (x := x + e - 1) (by omega) (by omega), Int.tdiv_eq_ediv_of_nonneg (by omega), w64 (x := (x + e - 1) / e) (by omega) (by omega)]

theorem blocks_tell (x : Int) : budget_Blocks.f x = some (blk x) := by
  unfold budget_Blocks.f blk
  by_cases h : x < 1
  · rw [if_pos h, if_pos h]
  rw [if_neg h, if_neg h]
  by_cases h4 : x > 4000
  · rw [if_pos h4, if_pos h4]; decide +kernel
  rw [if_neg h4, if_neg h4]
  by_cases h2 : x > 1024
  · rw [if_pos h2, if_pos h2, up_tell x 128 (by omega) (by omega) (by decide) (by decide), Option.bind_some, w64 (x := 0 + 1 + (x + 128 - 1) / 128) (by omega) (by omega)]
    congr 1; omega
  · rw [if_neg h2, if_neg h2, up_tell x 128 (by omega) (by omega) (by decide) (by decide), Option.bind_some, w64 (x := 0 + (x + 128 - 1) / 128) (by omega) (by omega)]
    congr 1; omega

theorem blocks_doc (x : Int) : credenzaref2_Blocks.f x = some (blk x) := by
  have hm : mn (mx x 0) 4000 = (if x < 1 then 0 else if x > 4000 then 4000 else x) := by unfold mn mx; (repeat' split) <;> omega
  unfold credenzaref2_Blocks.f blk
  rw [hm]
  by_cases h : x < 1
  · rw [if_pos h, if_pos h]; decide +kernel
  rw [if_neg h, if_neg h]
  by_cases h4 : x > 4000
  · rw [if_pos h4, if_pos h4]; decide +kernel
  rw [if_neg h4, if_neg h4]
  by_cases h2 : x > 1024
  · rw [if_pos (by omega), if_pos h2]; congr 1; omega
  · rw [if_neg (by omega), if_neg h2]

theorem blk_lo (x : Int) : 0 ≤ blk x := by unfold blk; (repeat' split) <;> omega
theorem blk_hi (x : Int) : blk x ≤ 33 := by unfold blk; (repeat' split) <;> omega

theorem dir_tell (x : Int) : budget_Dir.f x = credenzaref2_Dir.f x := by
  unfold budget_Dir.f credenzaref2_Dir.f
  rw [blocks_tell, blocks_doc]
theorem dir_some (x : Int) : ∃ r, credenzaref2_Dir.f x = some r := by
  unfold credenzaref2_Dir.f; rw [blocks_doc]; exact ⟨_, rfl⟩
theorem grow_tell (x y : Int) : budget_Grow.f x y = credenzaref2_Grow.f x y := by
  unfold budget_Grow.f credenzaref2_Grow.f
  rw [blocks_tell, blocks_tell, blocks_doc, blocks_doc]
theorem grow_some (x y : Int) : ∃ r, credenzaref2_Grow.f x y = some r := by
  unfold credenzaref2_Grow.f; rw [blocks_doc, blocks_doc]; exact ⟨_, rfl⟩

theorem layout_tell (a b : Int) : ∃ r, budget_Layout.f 2 a b = some r ∧ credenzaref2_Layout.f 2 a b = some r := by
  unfold budget_Layout.f credenzaref2_Layout.f
  have no : budget_Layout.j0 2 a b true = some (0, false) ∧ credenzaref2_Layout.j0 2 a b true = some (0, false) := ⟨rfl, rfl⟩
  by_cases h1 : a < 128
  · rw [if_pos h1, if_pos h1]; exact ⟨_, no⟩
  rw [if_neg h1, if_neg h1]
  by_cases h2 : a > 2048
  · rw [if_pos h2, if_pos h2]; exact ⟨_, no⟩
  rw [if_neg h2, if_neg h2]
  by_cases h3 : b < 8
  · rw [if_pos h3, if_pos h3]; exact ⟨_, no⟩
  rw [if_neg h3, if_neg h3]
  by_cases h4 : b > 200
  · rw [decide_eq_true h4]; exact ⟨_, no⟩
  rw [decide_eq_false h4]
  simp only [budget_Layout.j0, credenzaref2_Layout.j0]
  rw [if_neg (by decide), if_neg (by decide), up_tell a 1024 (by omega) (by omega) (by decide) (by decide), Option.bind_some,
    w64 (x := a - 96) (by omega) (by omega), w64 (x := a - 96 - b) (by omega) (by omega), w64 (x := a + 1023) (by omega) (by omega), Int.tdiv_eq_ediv_of_nonneg (by omega),
    w64 (x := (a + 1023) / 1024) (by omega) (by omega), show a + 1024 - 1 = a + 1023 from by omega]
  split
  · exact ⟨_, rfl, rfl⟩
  · exact ⟨_, rfl, rfl⟩

theorem may_tell (a b c : Int) (all : Bool) (ha : -9223372036854775808 ≤ a) (ha' : a ≤ 9223372036854775807) (hb : -9223372036854775808 ≤ b) (hb' : b ≤ 9223372036854775807) :
    ∃ r, budget_May.f a b c all = some r ∧ credenzaref2_May.f a b c all = some r := by
  unfold budget_May.f credenzaref2_May.f
  by_cases h1 : c < 1
  · rw [if_pos h1, if_pos h1]; exact ⟨_, rfl, rfl⟩
  rw [if_neg h1, if_neg h1]
  by_cases h2 : c > a
  · rw [if_pos h2, if_pos h2]; exact ⟨_, rfl, rfl⟩
  rw [if_neg h2, if_neg h2]
  cases all with
  | true => exact ⟨_, rfl, rfl⟩
  | false =>
    rw [if_neg (show ¬ false = true by decide), if_neg (show ¬ false = true by decide)]
    by_cases h3 : b ≤ 0
    · rw [if_pos h3, if_pos h3, if_pos (by omega)]; exact ⟨_, rfl, rfl⟩
    rw [if_neg h3, if_neg h3, if_pos (show b > 0 by omega), w64 (x := a - c) (by omega) (by omega)]
    by_cases h4 : b ≤ a
    · rw [if_pos h4, w64 (x := a - b) (by omega) (by omega)]
      refine ⟨_, rfl, ?_⟩
      congr 1
      apply decide_eq_decide.mpr
      omega
    · rw [if_neg h4, decide_eq_false (p := a - c ≥ b) (by omega)]; exact ⟨_, rfl, rfl⟩

theorem awake_tell : credenzalaw6_awake.f 2 = some true := by decide +kernel

theorem wf_i64 {x : Int} (h : (Lit.int .i64 x).wf = true) : -9223372036854775808 ≤ x ∧ x ≤ 9223372036854775807 := by
  simp [Lit.wf, IntKind.min, IntKind.max, IntKind.signed, IntKind.bits] at h
  omega

theorem BudgetTells : credenzalaw6_BudgetTells.Pure := by
  intro a0 a1 a2 a3 a4 a5 _ _ w2 w3 _
  refine ⟨2, ?_⟩
  unfold credenzalaw6_BudgetTells.f
  obtain ⟨l, hl1, hl2⟩ := layout_tell a0 a1
  obtain ⟨d, hd⟩ := dir_some a0
  obtain ⟨g, hg⟩ := grow_some a0 a1
  obtain ⟨m, hm1, hm2⟩ := may_tell a2 a3 a4 a5 (wf_i64 w2).1 (wf_i64 w2).2 (wf_i64 w3).1 (wf_i64 w3).2
  rw [hl1, hl2, blocks_tell, blocks_doc, dir_tell, hd, grow_tell, hg, hm1, hm2, awake_tell]
  rw [Option.bind_some, Option.bind_some, Option.bind_some, Option.bind_some, if_pos rfl, Option.bind_some, Option.bind_some, if_pos rfl, Option.bind_some, Option.bind_some, if_pos rfl,
    if_pos rfl, if_pos (by simp), Option.bind_some, Option.bind_some, if_pos (by simp)]
  rfl

end Go.Proofs.Ytdiablgbolffkaa.Pure
