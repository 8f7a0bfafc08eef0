/- NameTells: for every two texts the pure form of the law answers true. No condition beyond the row's own. -/
import Derived.Test.YtpalgkfilpkgeaaDoorPNameTellsx1
namespace Go.Proofs.YtpalgkfilpkgeaaDoor.Pure
open Go.RowKit Go.Proofs.YtpalgkfilpkgeaaDoor Go.Proofs.YtpalgkfilpkgeaaDoor.PNameTells Go.Proofs.YtpalgkfilpkgeaaDoorW.PrintWords Go.Proofs.YtpalgkfilpkgeaaDoorW.PrintLast

theorem tells_at (a b : ByteArray) (t : Bool) : credenzalaw9_NameTells.j0 1 a b t = some true := by
  cases t with
  | true => rfl
  | false =>
    simp only [credenzalaw9_NameTells.j0]
    rw [if_neg (by decide), Ref.split_R]
    show (if (Plain.ok a == Plain.ok a) = true then _ else _) = _
    rw [if_pos (by simp)]
    show (if decide ((Ref.splitR a).1 = (Ref.splitR a).1) = true then _ else _) = _
    rw [if_pos (by simp), if_pos (by simp), if_pos rfl, if_pos rfl, if_pos (by simp)]
    show (if (Ref.withinR a b == Ref.withinR a b) = true then _ else _) = _
    rw [if_pos (by simp)]
    show (if (Op.bytesLess a.toList b.toList == Op.bytesLess a.toList b.toList) = true then _ else _) = _
    rw [if_pos (by simp)]
    rfl

theorem NameTells : credenzalaw9_NameTells.Pure := by
  intro a b _ _
  refine ⟨1, ?_⟩
  unfold credenzalaw9_NameTells.f
  by_cases h : (a.size : Int) > 1000
  · rw [if_pos h]; exact tells_at a b true
  · rw [if_neg h]; exact tells_at a b _

end Go.Proofs.YtpalgkfilpkgeaaDoor.Pure
