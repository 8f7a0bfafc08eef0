/- BudgetDirs: for every number of names (masked to 8 bits and taken modulo 121) the pure form of the law answers true.
   No condition beyond the row's own. -/
import Derived.Test.YtdiablgbolffkaaPBudgetDirsx1
import Derived.Test.YtdiablgbolffkaaPureBase
namespace Go.Proofs.Ytdiablgbolffkaa.Pure
open Go.RowKit Go.Proofs.Ytdiablgbolffkaa.PBudgetDirs Go.Proofs.YtdiablgbolffkaaW.PrintWords Go.Proofs.YtdiablgbolffkaaW.PrintLast
open Go.Proofs.Ytdiablgbolffkaa.PureBase

def dirsAt (n : Int) : Option Bool :=
  if n > 32 then credenzalaw6_BudgetDirs.j0 4 n (wrap64 ((wrap64 (Int.tdiv (wrap64 (n + 3)) 4)) + 1))
  else credenzalaw6_BudgetDirs.j0 4 n (wrap64 (Int.tdiv (wrap64 (n + 3)) 4))

theorem dirs_all : ∀ n : Fin 121, dirsAt (n.val : Int) = some true := by decide +kernel

theorem BudgetDirs : credenzalaw6_BudgetDirs.Pure := by
  intro a0 _
  refine ⟨4, ?_⟩
  unfold credenzalaw6_BudgetDirs.f
  rw [and_ff]
  have h0 : 0 ≤ a0 % 256 := by omega
  have e : Int.tmod (a0 % 256) 121 = ((((a0 % 256) % 121).toNat : Nat) : Int) := by
    rw [Int.tmod_eq_emod_of_nonneg h0]
    omega
  rw [e]
  have hlt : ((a0 % 256) % 121).toNat < 121 := by omega
  exact dirs_all ⟨_, hlt⟩

end Go.Proofs.Ytdiablgbolffkaa.Pure
