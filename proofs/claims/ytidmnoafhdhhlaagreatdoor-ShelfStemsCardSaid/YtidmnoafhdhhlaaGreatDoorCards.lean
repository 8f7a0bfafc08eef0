/-
  DERIVED. GIVEN WITH THE SEED: THE CARDS: each row of YtidmnoafhdhhlaaGreatDoorRows.lean that lists a variable, with what it lists TIED to the program's text (the seventh form; the later family's looks); each row that meets fmt, with fmt's text TOLD by the authors' own Lean function (tested against real Go, not proved from fmt's source: count such statements apart). THE CARD IS WHAT COUNTS. Prove the row's statement (the work); the ties are given (YtidmnoafhdhhlaaGreatDoorTie.lean); close each card by the builder's one call (the guide's Derived/Test/ToyasCard.lean, 'card_holds'). Laid BY PROGRAM, IN A SANDBOX (cutbox-door.mjs). By AI agents, Wed Nov 11 2026. No macro, syntax, notation, axiom, sorry.
-/
import Derived.Test.YtidmnoafhdhhlaaGreatDoorRows
import GoSem.ClaimSeven
namespace Go.Proofs.YtidmnoafhdhhlaaGreatDoor
namespace Rows

/-- THE TIED CARD OF 'credenzalaw22.ShelfArgs'. -/
def shelfArgsCard : Claim7 := { stood := { row := shelfArgsRow, standIns := [], harness := (true, "c49e7d7b424c45b3bb5c2d2bc10b4716e47d852487c833fb88f30ca355f6532d"), looks := true }, kinds := [], alts := [], laidByText := true, laidKinds := [.data, .data, .data, .pinned, .data, .sentinel, .sentinel, .handle], laidTests := true, laidLooks := .later }
def ShelfArgsCardSaid : Prop := Claim7.holds Tryz.pinned (.plain (OpenSpec.ofChange shelfArgsSpec)) shelfArgsCard

/-- THE TIED CARD OF 'credenzalaw22.ShelfTidies'. -/
def shelfTidiesCard : Claim7 := { stood := { row := shelfTidiesRow, standIns := [], harness := (true, "c49e7d7b424c45b3bb5c2d2bc10b4716e47d852487c833fb88f30ca355f6532d"), looks := true }, kinds := [], alts := [], laidByText := true, laidKinds := [.data, .data, .data, .pinned, .data, .sentinel, .sentinel, .handle], laidTests := true, laidLooks := .later }
def ShelfTidiesCardSaid : Prop := Claim7.holds Tryz.pinned (.plain (OpenSpec.ofChange shelfTidiesSpec)) shelfTidiesCard

/-- THE TIED CARD OF 'credenzalaw22.ShelfStems'. -/
def shelfStemsCard : Claim7 := { stood := { row := shelfStemsRow, standIns := [], harness := (true, "c49e7d7b424c45b3bb5c2d2bc10b4716e47d852487c833fb88f30ca355f6532d"), looks := true }, kinds := [], alts := [], laidByText := true, laidKinds := [.data, .data, .data, .pinned, .data, .sentinel, .sentinel, .handle], laidTests := true, laidLooks := .later }
def ShelfStemsCardSaid : Prop := Claim7.holds Tryz.pinned (.plain (OpenSpec.ofChange shelfStemsSpec)) shelfStemsCard

/-- THE TIED CARD OF 'credenzalaw22.ShelfLast'. -/
def shelfLastCard : Claim7 := { stood := { row := shelfLastRow, standIns := [], harness := (true, "c49e7d7b424c45b3bb5c2d2bc10b4716e47d852487c833fb88f30ca355f6532d"), looks := true }, kinds := [], alts := [], laidByText := true, laidKinds := [.data, .data, .data, .pinned, .data, .sentinel, .sentinel, .handle], laidTests := true, laidLooks := .later }
def ShelfLastCardSaid : Prop := Claim7.holds Tryz.pinned (.plain (OpenSpec.ofChange shelfLastSpec)) shelfLastCard

/-- THE TIED CARD OF 'credenzalaw22.ShelfBlesses'. -/
def shelfBlessesCard : Claim7 := { stood := { row := shelfBlessesRow, standIns := [], harness := (true, "c49e7d7b424c45b3bb5c2d2bc10b4716e47d852487c833fb88f30ca355f6532d"), looks := true }, kinds := [], alts := [], laidByText := true, laidKinds := [.data, .data, .data, .pinned, .data, .sentinel, .sentinel, .handle], laidTests := true, laidLooks := .later }
def ShelfBlessesCardSaid : Prop := Claim7.holds Tryz.pinned (.plain (OpenSpec.ofChange shelfBlessesSpec)) shelfBlessesCard

/-- THE TIED CARD OF 'credenzalaw22.ShelfShares'. -/
def shelfSharesCard : Claim7 := { stood := { row := shelfSharesRow, standIns := [], harness := (true, "c49e7d7b424c45b3bb5c2d2bc10b4716e47d852487c833fb88f30ca355f6532d"), looks := true }, kinds := [], alts := [], laidByText := true, laidKinds := [.data, .data, .data, .pinned, .data, .sentinel, .sentinel, .handle], laidTests := true, laidLooks := .later }
def ShelfSharesCardSaid : Prop := Claim7.holds Tryz.pinned (.plain (OpenSpec.ofChange shelfSharesSpec)) shelfSharesCard

/-- THE SECOND FORM's CARD OF 'credenzalaw22.ShelfArgs'. -/
def shelfArgsUptoCard : Claim7 := { stood := { row := shelfArgsUptoRow, standIns := [], harness := (true, "c49e7d7b424c45b3bb5c2d2bc10b4716e47d852487c833fb88f30ca355f6532d"), looks := true }, kinds := [], alts := [], laidByText := true, laidKinds := [.data, .data, .data, .pinned, .data, .sentinel, .sentinel, .handle], laidTests := true, laidLooks := .later }
def ShelfArgsUptoCardSaid : Prop := Claim7.holds Tryz.pinned (.plain (OpenSpec.upto shelfArgsSpec)) shelfArgsUptoCard

/-- THE SECOND FORM's CARD OF 'credenzalaw22.ShelfTidies'. -/
def shelfTidiesUptoCard : Claim7 := { stood := { row := shelfTidiesUptoRow, standIns := [], harness := (true, "c49e7d7b424c45b3bb5c2d2bc10b4716e47d852487c833fb88f30ca355f6532d"), looks := true }, kinds := [], alts := [], laidByText := true, laidKinds := [.data, .data, .data, .pinned, .data, .sentinel, .sentinel, .handle], laidTests := true, laidLooks := .later }
def ShelfTidiesUptoCardSaid : Prop := Claim7.holds Tryz.pinned (.plain (OpenSpec.upto shelfTidiesSpec)) shelfTidiesUptoCard

/-- THE SECOND FORM's CARD OF 'credenzalaw22.ShelfStems'. -/
def shelfStemsUptoCard : Claim7 := { stood := { row := shelfStemsUptoRow, standIns := [], harness := (true, "c49e7d7b424c45b3bb5c2d2bc10b4716e47d852487c833fb88f30ca355f6532d"), looks := true }, kinds := [], alts := [], laidByText := true, laidKinds := [.data, .data, .data, .pinned, .data, .sentinel, .sentinel, .handle], laidTests := true, laidLooks := .later }
def ShelfStemsUptoCardSaid : Prop := Claim7.holds Tryz.pinned (.plain (OpenSpec.upto shelfStemsSpec)) shelfStemsUptoCard

/-- THE SECOND FORM's CARD OF 'credenzalaw22.ShelfLast'. -/
def shelfLastUptoCard : Claim7 := { stood := { row := shelfLastUptoRow, standIns := [], harness := (true, "c49e7d7b424c45b3bb5c2d2bc10b4716e47d852487c833fb88f30ca355f6532d"), looks := true }, kinds := [], alts := [], laidByText := true, laidKinds := [.data, .data, .data, .pinned, .data, .sentinel, .sentinel, .handle], laidTests := true, laidLooks := .later }
def ShelfLastUptoCardSaid : Prop := Claim7.holds Tryz.pinned (.plain (OpenSpec.upto shelfLastSpec)) shelfLastUptoCard

/-- THE SECOND FORM's CARD OF 'credenzalaw22.ShelfBlesses'. -/
def shelfBlessesUptoCard : Claim7 := { stood := { row := shelfBlessesUptoRow, standIns := [], harness := (true, "c49e7d7b424c45b3bb5c2d2bc10b4716e47d852487c833fb88f30ca355f6532d"), looks := true }, kinds := [], alts := [], laidByText := true, laidKinds := [.data, .data, .data, .pinned, .data, .sentinel, .sentinel, .handle], laidTests := true, laidLooks := .later }
def ShelfBlessesUptoCardSaid : Prop := Claim7.holds Tryz.pinned (.plain (OpenSpec.upto shelfBlessesSpec)) shelfBlessesUptoCard

/-- THE SECOND FORM's CARD OF 'credenzalaw22.ShelfShares'. -/
def shelfSharesUptoCard : Claim7 := { stood := { row := shelfSharesUptoRow, standIns := [], harness := (true, "c49e7d7b424c45b3bb5c2d2bc10b4716e47d852487c833fb88f30ca355f6532d"), looks := true }, kinds := [], alts := [], laidByText := true, laidKinds := [.data, .data, .data, .pinned, .data, .sentinel, .sentinel, .handle], laidTests := true, laidLooks := .later }
def ShelfSharesUptoCardSaid : Prop := Claim7.holds Tryz.pinned (.plain (OpenSpec.upto shelfSharesSpec)) shelfSharesUptoCard
end Rows
end Go.Proofs.YtidmnoafhdhhlaaGreatDoor
