/-
  No cell of these rows narrows 'for every input' (looked for: loops, veiled, ifaces, maps, wideKeys, modest, calm, conditions, laid).
  DERIVED. THE GIVEN ROWS OF THIS SEAT. 4 by the template 'for every input the law returns true; each argument reads behind the call as it read before'; 0 by the template 'total and deterministic' (their statements: YticjkhkmbinmgaaTotals.lean).
  GIVEN WITH THE SEED: the statements are not yours to turn. If you find one false, say at which input.
  Laid BY PROGRAM, IN A SANDBOX (cutbox-rows.mjs): the forced cells as the released guide's own fill.sh prints them over the translation 7ab387578502dbac… (all of the seat's roots in one cut). By AI agents, Wed Nov 11 2026. No macro, syntax, notation, axiom, sorry.
-/
import Derived.Test.YticjkhkmbinmgaaChecked
import GoSem.Claim
import GoSem.ClaimJoined
import GoSem.ClaimMapViews
import Derived.JoinedTies
import Derived.KernelRfl
namespace Go.Proofs.Yticjkhkmbinmgaa
/- THE CELL 'sum', in the pinned program and in every row, IS THE sha256 OF THE DUMP (.gsa) THAT YticjkhkmbinmgaaProg.lean LOADS. Nothing in Lean hashes anything: it is a label: what it is worth is what the hold of that sum in a sandbox is worth. -/
noncomputable def Try.pinned : Pinned := { name := "yticjkhkmbinmgaa", sum := "7ab387578502dbacd8604cdb5a3cccf91e8596edf4fc059059abf54842036901", checked := Try.checked }
namespace Rows
def none {H : Type} : Left H := { results := [], args := [] }

/-- 'credenzalaw18.PlaceFirst': WHATEVER THE INPUT: true; the input reads as it did. -/
def placeFirstSpec : ChangeSpec := { name := "placeFirst", fn := fun _ => fun
  | [d1, d2, d3] => { results := [.lit (.bool true)], args := [d1, d2, d3] }
  | _ => none }
def placeFirstRow : OpenClaim := { program := "yticjkhkmbinmgaa", sum := "7ab387578502dbacd8604cdb5a3cccf91e8596edf4fc059059abf54842036901", func := "credenza/credenzalaw18.PlaceFirst", spec := "placeFirst", unfollowed := true, recurses := true, apart := false }
def PlaceFirstSaid : Prop := placeFirstRow.holds Try.pinned (OpenSpec.ofChange placeFirstSpec)

/-- ITS FALSE NEIGHBOUR: 'it returns false'. Refute it at one input. -/
def placeFirstWrong : ChangeSpec := { name := "placeFirst", fn := fun _ => fun
  | [d1, d2, d3] => { results := [.lit (.bool false)], args := [d1, d2, d3] }
  | _ => none }
def PlaceFirstWrongFalsely : Prop := placeFirstRow.holds Try.pinned (OpenSpec.ofChange placeFirstWrong)

/-- 'credenzalaw18.PlaceTells': WHATEVER THE INPUT: true; the input reads as it did. -/
def placeTellsSpec : ChangeSpec := { name := "placeTells", fn := fun _ => fun
  | [d1, d2, d3] => { results := [.lit (.bool true)], args := [d1, d2, d3] }
  | _ => none }
def placeTellsRow : OpenClaim := { program := "yticjkhkmbinmgaa", sum := "7ab387578502dbacd8604cdb5a3cccf91e8596edf4fc059059abf54842036901", func := "credenza/credenzalaw18.PlaceTells", spec := "placeTells", unfollowed := true, recurses := true, apart := false }
def PlaceTellsSaid : Prop := placeTellsRow.holds Try.pinned (OpenSpec.ofChange placeTellsSpec)

/-- ITS FALSE NEIGHBOUR: 'it returns false'. Refute it at one input. -/
def placeTellsWrong : ChangeSpec := { name := "placeTells", fn := fun _ => fun
  | [d1, d2, d3] => { results := [.lit (.bool false)], args := [d1, d2, d3] }
  | _ => none }
def PlaceTellsWrongFalsely : Prop := placeTellsRow.holds Try.pinned (OpenSpec.ofChange placeTellsWrong)

/-- 'credenzalaw18.PlaceCleans': WHATEVER THE INPUT: true; the input reads as it did. -/
def placeCleansSpec : ChangeSpec := { name := "placeCleans", fn := fun _ => fun
  | [d1, d2] => { results := [.lit (.bool true)], args := [d1, d2] }
  | _ => none }
def placeCleansRow : OpenClaim := { program := "yticjkhkmbinmgaa", sum := "7ab387578502dbacd8604cdb5a3cccf91e8596edf4fc059059abf54842036901", func := "credenza/credenzalaw18.PlaceCleans", spec := "placeCleans", unfollowed := true, recurses := true, apart := false }
def PlaceCleansSaid : Prop := placeCleansRow.holds Try.pinned (OpenSpec.ofChange placeCleansSpec)

/-- ITS FALSE NEIGHBOUR: 'it returns false'. Refute it at one input. -/
def placeCleansWrong : ChangeSpec := { name := "placeCleans", fn := fun _ => fun
  | [d1, d2] => { results := [.lit (.bool false)], args := [d1, d2] }
  | _ => none }
def PlaceCleansWrongFalsely : Prop := placeCleansRow.holds Try.pinned (OpenSpec.ofChange placeCleansWrong)

/-- 'credenzalaw18.PlaceTakes': WHATEVER THE INPUT: true; the input reads as it did. -/
def placeTakesSpec : ChangeSpec := { name := "placeTakes", fn := fun _ => fun
  | [d1, d2] => { results := [.lit (.bool true)], args := [d1, d2] }
  | _ => none }
def placeTakesRow : OpenClaim := { program := "yticjkhkmbinmgaa", sum := "7ab387578502dbacd8604cdb5a3cccf91e8596edf4fc059059abf54842036901", func := "credenza/credenzalaw18.PlaceTakes", spec := "placeTakes", unfollowed := true, recurses := true, apart := false }
def PlaceTakesSaid : Prop := placeTakesRow.holds Try.pinned (OpenSpec.ofChange placeTakesSpec)

/-- ITS FALSE NEIGHBOUR: 'it returns false'. Refute it at one input. -/
def placeTakesWrong : ChangeSpec := { name := "placeTakes", fn := fun _ => fun
  | [d1, d2] => { results := [.lit (.bool false)], args := [d1, d2] }
  | _ => none }
def PlaceTakesWrongFalsely : Prop := placeTakesRow.holds Try.pinned (OpenSpec.ofChange placeTakesWrong)

/- THE SECOND FORM. 'bulk': how many values and letters a reading holds, each counted each time it is reached (what is shared counts as often as it is met; a slice's spare places count too). A statement '..UptoSaid' is the law's where the arguments, and the package variables that the reading takes, are together of bulk at most 1048576: NARROWER than '..Said'. Prove '..Said' where nothing that the law and all that it calls make is longer than what came in: it says more and counts as full. Else prove '..UptoSaid'. A law counts once. -/
mutual
def uptoBulk {H : Type} : DataW H → Nat
  | .lit (.string bytes) => bytes.length + 1
  | .lit _ => 1
  | .nil => 1
  | .ptr d => uptoBulk d + 1
  | .slice elems spare => uptoBulkAll elems + uptoBulkAll spare + 1
  | .agg parts => uptoBulkAll parts + 1
  | .iface _ d => uptoBulk d + 1
  | .map entries => uptoBulkEntries entries + 1
  | .held _ => 1
def uptoBulkAll {H : Type} : List (DataW H) → Nat
  | [] => 0
  | d :: r => uptoBulk d + uptoBulkAll r
def uptoBulkEntries {H : Type} : List (Lit × DataW H) → Nat
  | [] => 0
  | x :: r => uptoBulkEntry x + uptoBulkEntries r
def uptoBulkEntry {H : Type} : Lit × DataW H → Nat
  | (.string bytes, d) => bytes.length + uptoBulk d + 1
  | (_, d) => uptoBulk d + 1
 end
def uptoSmall : (H : Type) → List (DataW H) → Bool := fun _ ds => decide (uptoBulkAll ds ≤ 1048576)
def OpenSpec.upto (s : _root_.Go.ChangeSpec) : _root_.Go.OpenSpec := { _root_.Go.OpenSpec.ofChange s with cond := some uptoSmall }

/-- 'credenzalaw18.PlaceFirst', WHERE WHAT IT READS IS OF BULK AT MOST 1048576: true; the input reads as it did. -/
def placeFirstUptoRow : OpenClaim := { program := "yticjkhkmbinmgaa", sum := "7ab387578502dbacd8604cdb5a3cccf91e8596edf4fc059059abf54842036901", func := "credenza/credenzalaw18.PlaceFirst", spec := "placeFirst", unfollowed := true, recurses := true, apart := false, narrowed := true }
def PlaceFirstUptoSaid : Prop := placeFirstUptoRow.holds Try.pinned (OpenSpec.upto placeFirstSpec)

/-- 'credenzalaw18.PlaceTells', WHERE WHAT IT READS IS OF BULK AT MOST 1048576: true; the input reads as it did. -/
def placeTellsUptoRow : OpenClaim := { program := "yticjkhkmbinmgaa", sum := "7ab387578502dbacd8604cdb5a3cccf91e8596edf4fc059059abf54842036901", func := "credenza/credenzalaw18.PlaceTells", spec := "placeTells", unfollowed := true, recurses := true, apart := false, narrowed := true }
def PlaceTellsUptoSaid : Prop := placeTellsUptoRow.holds Try.pinned (OpenSpec.upto placeTellsSpec)

/-- 'credenzalaw18.PlaceCleans', WHERE WHAT IT READS IS OF BULK AT MOST 1048576: true; the input reads as it did. -/
def placeCleansUptoRow : OpenClaim := { program := "yticjkhkmbinmgaa", sum := "7ab387578502dbacd8604cdb5a3cccf91e8596edf4fc059059abf54842036901", func := "credenza/credenzalaw18.PlaceCleans", spec := "placeCleans", unfollowed := true, recurses := true, apart := false, narrowed := true }
def PlaceCleansUptoSaid : Prop := placeCleansUptoRow.holds Try.pinned (OpenSpec.upto placeCleansSpec)

/-- 'credenzalaw18.PlaceTakes', WHERE WHAT IT READS IS OF BULK AT MOST 1048576: true; the input reads as it did. -/
def placeTakesUptoRow : OpenClaim := { program := "yticjkhkmbinmgaa", sum := "7ab387578502dbacd8604cdb5a3cccf91e8596edf4fc059059abf54842036901", func := "credenza/credenzalaw18.PlaceTakes", spec := "placeTakes", unfollowed := true, recurses := true, apart := false, narrowed := true }
def PlaceTakesUptoSaid : Prop := placeTakesUptoRow.holds Try.pinned (OpenSpec.upto placeTakesSpec)

end Rows
end Go.Proofs.Yticjkhkmbinmgaa
