/- A part of the proof of ShelfStems: the program run by the evaluator. No condition. -/
import Derived.Test.YtidmnoafhdhhlaaGreatDoorCards
import Derived.JoinedOf
import Derived.SevenTiedAt
set_option linter.all false
set_option maxHeartbeats 4000000
namespace Go.Proofs.Aud
noncomputable section
open Go Go.Proofs.YtidmnoafhdhhlaaGreatDoor
set_option maxRecDepth 100000
theorem closed : joinedFacts Tryz.prog 5 Tryz.f5 Rows.shelfStemsSpec Rows.shelfStemsRow = true := by
  simp only [joinedFacts, Bool.and_eq_true]
  and_intros <;> as_aux_lemma => kernel_rfl
end
end Go.Proofs.Aud
