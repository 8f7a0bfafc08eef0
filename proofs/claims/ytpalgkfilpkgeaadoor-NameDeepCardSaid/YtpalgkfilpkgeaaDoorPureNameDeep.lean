/- NameDeep: for every number of names the pure form of the law answers true. No condition beyond the row's own. -/
import Derived.Test.YtpalgkfilpkgeaaDoorPNameDeepx1
import Derived.Test.YtpalgkfilpkgeaaDoorPureBase
namespace Go.Proofs.YtpalgkfilpkgeaaDoor.Pure
open Go.RowKit Go.Proofs.YtpalgkfilpkgeaaDoor Go.Proofs.YtpalgkfilpkgeaaDoor.PNameDeep Go.Proofs.YtpalgkfilpkgeaaDoorW.PrintWords Go.Proofs.YtpalgkfilpkgeaaDoorW.PrintLast
open Go.Proofs.YtpalgkfilpkgeaaDoor.PureBase

theorem deep_all : ∀ n : Fin 10, credenzalaw9_NameDeep.l0 60 (n.val : Int) (⟨#[]⟩ : ByteArray) 0 = some true := by decide +kernel

theorem NameDeep : credenzalaw9_NameDeep.Pure := by
  intro a0 _
  refine ⟨60, ?_⟩
  unfold credenzalaw9_NameDeep.f
  rw [and_ff]
  have h0 : 0 ≤ a0 % 256 := by omega
  have e : Int.tmod (a0 % 256) 10 = ((((a0 % 256) % 10).toNat : Nat) : Int) := by
    rw [Int.tmod_eq_emod_of_nonneg h0]
    omega
  rw [e]
  have hlt : ((a0 % 256) % 10).toNat < 10 := by omega
  exact deep_all ⟨_, hlt⟩

end Go.Proofs.YtpalgkfilpkgeaaDoor.Pure
