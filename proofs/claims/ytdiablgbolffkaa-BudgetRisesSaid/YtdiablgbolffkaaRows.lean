/-
  No cell of these rows narrows 'for every input' (looked for: loops, veiled, ifaces, maps, wideKeys, modest, calm, conditions, laid).
  DERIVED. THE GIVEN ROWS OF THIS SEAT. 5 by the template 'for every input the law returns true; each argument reads behind the call as it read before'; 0 by the template 'total and deterministic' (their statements: YtdiablgbolffkaaTotals.lean).
  GIVEN WITH THE SEED: the statements are not yours to turn. If you find one false, say at which input.
  Laid BY PROGRAM, IN A SANDBOX (cutbox-rows.mjs): the forced cells as the released guide's own fill.sh prints them over the translation 0ee1b1b61835cf23… (all of the seat's roots in one cut). By AI agents, Wed Nov 11 2026. No macro, syntax, notation, axiom, sorry.
-/
import Derived.Test.YtdiablgbolffkaaChecked
import GoSem.Claim
import GoSem.ClaimJoined
import GoSem.ClaimMapViews
import Derived.JoinedTies
import Derived.KernelRfl
namespace Go.Proofs.Ytdiablgbolffkaa
/- THE CELL 'sum', in the pinned program and in every row, IS THE sha256 OF THE DUMP (.gsa) THAT YtdiablgbolffkaaProg.lean LOADS. Nothing in Lean hashes anything: it is a label: what it is worth is what the hold of that sum in a sandbox is worth. -/
noncomputable def Try.pinned : Pinned := { name := "ytdiablgbolffkaa", sum := "0ee1b1b61835cf23edcb065d85caac4aaa3fcf83b5b1cc13b74a83871e77d802", checked := Try.checked }
namespace Rows
def none {H : Type} : Left H := { results := [], args := [] }

/-- 'credenzalaw6.BudgetMay': WHATEVER THE INPUT: true; the input reads as it did. -/
def budgetMaySpec : ChangeSpec := { name := "budgetMay", fn := fun _ => fun
  | [d1, d2, d3] => { results := [.lit (.bool true)], args := [d1, d2, d3] }
  | _ => none }
def budgetMayRow : OpenClaim := { program := "ytdiablgbolffkaa", sum := "0ee1b1b61835cf23edcb065d85caac4aaa3fcf83b5b1cc13b74a83871e77d802", func := "credenza/credenzalaw6.BudgetMay", spec := "budgetMay", apart := false }
def BudgetMaySaid : Prop := budgetMayRow.holds Try.pinned (OpenSpec.ofChange budgetMaySpec)

/-- ITS FALSE NEIGHBOUR: 'it returns false'. Refute it at one input. -/
def budgetMayWrong : ChangeSpec := { name := "budgetMay", fn := fun _ => fun
  | [d1, d2, d3] => { results := [.lit (.bool false)], args := [d1, d2, d3] }
  | _ => none }
def BudgetMayWrongFalsely : Prop := budgetMayRow.holds Try.pinned (OpenSpec.ofChange budgetMayWrong)

/-- 'credenzalaw6.BudgetLayouts': WHATEVER THE INPUT: true; the input reads as it did. -/
def budgetLayoutsSpec : ChangeSpec := { name := "budgetLayouts", fn := fun _ => fun
  | [d1, d2] => { results := [.lit (.bool true)], args := [d1, d2] }
  | _ => none }
def budgetLayoutsRow : OpenClaim := { program := "ytdiablgbolffkaa", sum := "0ee1b1b61835cf23edcb065d85caac4aaa3fcf83b5b1cc13b74a83871e77d802", func := "credenza/credenzalaw6.BudgetLayouts", spec := "budgetLayouts", apart := false }
def BudgetLayoutsSaid : Prop := budgetLayoutsRow.holds Try.pinned (OpenSpec.ofChange budgetLayoutsSpec)

/-- ITS FALSE NEIGHBOUR: 'it returns false'. Refute it at one input. -/
def budgetLayoutsWrong : ChangeSpec := { name := "budgetLayouts", fn := fun _ => fun
  | [d1, d2] => { results := [.lit (.bool false)], args := [d1, d2] }
  | _ => none }
def BudgetLayoutsWrongFalsely : Prop := budgetLayoutsRow.holds Try.pinned (OpenSpec.ofChange budgetLayoutsWrong)

/-- 'credenzalaw6.BudgetDirs': WHATEVER THE INPUT: true; the input reads as it did. -/
def budgetDirsSpec : ChangeSpec := { name := "budgetDirs", fn := fun _ => fun
  | [d] => { results := [.lit (.bool true)], args := [d] }
  | _ => none }
def budgetDirsRow : OpenClaim := { program := "ytdiablgbolffkaa", sum := "0ee1b1b61835cf23edcb065d85caac4aaa3fcf83b5b1cc13b74a83871e77d802", func := "credenza/credenzalaw6.BudgetDirs", spec := "budgetDirs", apart := false }
def BudgetDirsSaid : Prop := budgetDirsRow.holds Try.pinned (OpenSpec.ofChange budgetDirsSpec)

/-- ITS FALSE NEIGHBOUR: 'it returns false'. Refute it at one input. -/
def budgetDirsWrong : ChangeSpec := { name := "budgetDirs", fn := fun _ => fun
  | [d] => { results := [.lit (.bool false)], args := [d] }
  | _ => none }
def BudgetDirsWrongFalsely : Prop := budgetDirsRow.holds Try.pinned (OpenSpec.ofChange budgetDirsWrong)

/-- 'credenzalaw6.BudgetRises': WHATEVER THE INPUT: true; the input reads as it did. -/
def budgetRisesSpec : ChangeSpec := { name := "budgetRises", fn := fun _ => fun
  | [d1, d2] => { results := [.lit (.bool true)], args := [d1, d2] }
  | _ => none }
def budgetRisesRow : OpenClaim := { program := "ytdiablgbolffkaa", sum := "0ee1b1b61835cf23edcb065d85caac4aaa3fcf83b5b1cc13b74a83871e77d802", func := "credenza/credenzalaw6.BudgetRises", spec := "budgetRises", apart := false }
def BudgetRisesSaid : Prop := budgetRisesRow.holds Try.pinned (OpenSpec.ofChange budgetRisesSpec)

/-- ITS FALSE NEIGHBOUR: 'it returns false'. Refute it at one input. -/
def budgetRisesWrong : ChangeSpec := { name := "budgetRises", fn := fun _ => fun
  | [d1, d2] => { results := [.lit (.bool false)], args := [d1, d2] }
  | _ => none }
def BudgetRisesWrongFalsely : Prop := budgetRisesRow.holds Try.pinned (OpenSpec.ofChange budgetRisesWrong)

/-- 'credenzalaw6.BudgetTells': WHATEVER THE INPUT: true; the input reads as it did. -/
def budgetTellsSpec : ChangeSpec := { name := "budgetTells", fn := fun _ => fun
  | [d1, d2, d3, d4, d5, d6] => { results := [.lit (.bool true)], args := [d1, d2, d3, d4, d5, d6] }
  | _ => none }
def budgetTellsRow : OpenClaim := { program := "ytdiablgbolffkaa", sum := "0ee1b1b61835cf23edcb065d85caac4aaa3fcf83b5b1cc13b74a83871e77d802", func := "credenza/credenzalaw6.BudgetTells", spec := "budgetTells", apart := false }
def BudgetTellsSaid : Prop := budgetTellsRow.holds Try.pinned (OpenSpec.ofChange budgetTellsSpec)

/-- ITS FALSE NEIGHBOUR: 'it returns false'. Refute it at one input. -/
def budgetTellsWrong : ChangeSpec := { name := "budgetTells", fn := fun _ => fun
  | [d1, d2, d3, d4, d5, d6] => { results := [.lit (.bool false)], args := [d1, d2, d3, d4, d5, d6] }
  | _ => none }
def BudgetTellsWrongFalsely : Prop := budgetTellsRow.holds Try.pinned (OpenSpec.ofChange budgetTellsWrong)

/- THE SECOND FORM. 'bulk': how many values and letters a reading holds, each counted each time it is reached (what is shared counts as often as it is met; a slice's spare places count too). A statement '..UptoSaid' is the law's where the arguments, and the package variables that the reading takes, are together of bulk at most 1048576: NARROWER than '..Said'. Prove '..Said' where nothing that the law and all that it calls make is longer than what came in: it says more and counts as full. Else prove '..UptoSaid'. A law counts once. -/
mutual
def uptoBulk {H : Type} : DataW H → Nat
  | .lit (.string bytes) => bytes.length + 1
  | .lit _ => 1
  | .nil => 1
  | .ptr d => uptoBulk d + 1
  | .slice elems spare => uptoBulkAll elems + uptoBulkAll spare + 1
  | .agg parts => uptoBulkAll parts + 1
  | .iface _ d => uptoBulk d + 1
  | .map entries => uptoBulkEntries entries + 1
  | .held _ => 1
def uptoBulkAll {H : Type} : List (DataW H) → Nat
  | [] => 0
  | d :: r => uptoBulk d + uptoBulkAll r
def uptoBulkEntries {H : Type} : List (Lit × DataW H) → Nat
  | [] => 0
  | x :: r => uptoBulkEntry x + uptoBulkEntries r
def uptoBulkEntry {H : Type} : Lit × DataW H → Nat
  | (.string bytes, d) => bytes.length + uptoBulk d + 1
  | (_, d) => uptoBulk d + 1
 end
def uptoSmall : (H : Type) → List (DataW H) → Bool := fun _ ds => decide (uptoBulkAll ds ≤ 1048576)
def OpenSpec.upto (s : _root_.Go.ChangeSpec) : _root_.Go.OpenSpec := { _root_.Go.OpenSpec.ofChange s with cond := some uptoSmall }

/-- 'credenzalaw6.BudgetMay', WHERE WHAT IT READS IS OF BULK AT MOST 1048576: true; the input reads as it did. -/
def budgetMayUptoRow : OpenClaim := { program := "ytdiablgbolffkaa", sum := "0ee1b1b61835cf23edcb065d85caac4aaa3fcf83b5b1cc13b74a83871e77d802", func := "credenza/credenzalaw6.BudgetMay", spec := "budgetMay", apart := false, narrowed := true }
def BudgetMayUptoSaid : Prop := budgetMayUptoRow.holds Try.pinned (OpenSpec.upto budgetMaySpec)

/-- 'credenzalaw6.BudgetLayouts', WHERE WHAT IT READS IS OF BULK AT MOST 1048576: true; the input reads as it did. -/
def budgetLayoutsUptoRow : OpenClaim := { program := "ytdiablgbolffkaa", sum := "0ee1b1b61835cf23edcb065d85caac4aaa3fcf83b5b1cc13b74a83871e77d802", func := "credenza/credenzalaw6.BudgetLayouts", spec := "budgetLayouts", apart := false, narrowed := true }
def BudgetLayoutsUptoSaid : Prop := budgetLayoutsUptoRow.holds Try.pinned (OpenSpec.upto budgetLayoutsSpec)

/-- 'credenzalaw6.BudgetDirs', WHERE WHAT IT READS IS OF BULK AT MOST 1048576: true; the input reads as it did. -/
def budgetDirsUptoRow : OpenClaim := { program := "ytdiablgbolffkaa", sum := "0ee1b1b61835cf23edcb065d85caac4aaa3fcf83b5b1cc13b74a83871e77d802", func := "credenza/credenzalaw6.BudgetDirs", spec := "budgetDirs", apart := false, narrowed := true }
def BudgetDirsUptoSaid : Prop := budgetDirsUptoRow.holds Try.pinned (OpenSpec.upto budgetDirsSpec)

/-- 'credenzalaw6.BudgetRises', WHERE WHAT IT READS IS OF BULK AT MOST 1048576: true; the input reads as it did. -/
def budgetRisesUptoRow : OpenClaim := { program := "ytdiablgbolffkaa", sum := "0ee1b1b61835cf23edcb065d85caac4aaa3fcf83b5b1cc13b74a83871e77d802", func := "credenza/credenzalaw6.BudgetRises", spec := "budgetRises", apart := false, narrowed := true }
def BudgetRisesUptoSaid : Prop := budgetRisesUptoRow.holds Try.pinned (OpenSpec.upto budgetRisesSpec)

/-- 'credenzalaw6.BudgetTells', WHERE WHAT IT READS IS OF BULK AT MOST 1048576: true; the input reads as it did. -/
def budgetTellsUptoRow : OpenClaim := { program := "ytdiablgbolffkaa", sum := "0ee1b1b61835cf23edcb065d85caac4aaa3fcf83b5b1cc13b74a83871e77d802", func := "credenza/credenzalaw6.BudgetTells", spec := "budgetTells", apart := false, narrowed := true }
def BudgetTellsUptoSaid : Prop := budgetTellsUptoRow.holds Try.pinned (OpenSpec.upto budgetTellsSpec)

end Rows
end Go.Proofs.Ytdiablgbolffkaa
