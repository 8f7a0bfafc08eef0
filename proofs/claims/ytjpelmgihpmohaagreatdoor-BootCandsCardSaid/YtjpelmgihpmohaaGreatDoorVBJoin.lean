/- A part of the proof of BootCands: the program run by the evaluator. No condition. -/
import Derived.Test.YtjpelmgihpmohaaGreatDoorCards
import Derived.JoinedOf
import Derived.SevenTiedAt
set_option linter.all false
set_option maxHeartbeats 4000000
namespace Go.Proofs.Aud
noncomputable section
noncomputable section
open Go Go.Proofs.YtjpelmgihpmohaaGreatDoor
set_option maxRecDepth 100000
theorem closed:joinedFacts Tryz.prog 3 Tryz.f3 Rows.bootCandsSpec Rows.bootCandsRow=true:=by
 simp only [joinedFacts,Bool.and_eq_true]
 and_intros<;>as_aux_lemma=>kernel_rfl
end
end
end Go.Proofs.Aud
