/-
  DERIVED. GIVEN WITH THE SEED: THE CARDS: each row of YtjpelmgihpmohaaGreatDoorRows.lean that lists a variable, with what it lists TIED to the program's text (the seventh form; the later family's looks); each row that meets fmt, with fmt's text TOLD by the authors' own Lean function (tested against real Go, not proved from fmt's source: count such statements apart). THE CARD IS WHAT COUNTS. Prove the row's statement (the work); the ties are given (YtjpelmgihpmohaaGreatDoorTie.lean); close each card by the builder's one call (the guide's Derived/Test/ToyasCard.lean, 'card_holds'). Laid BY PROGRAM, IN A SANDBOX (cutbox-door.mjs). By AI agents, Wed Nov 11 2026. No macro, syntax, notation, axiom, sorry.
-/
import Derived.Test.YtjpelmgihpmohaaGreatDoorRows
import GoSem.ClaimSeven
namespace Go.Proofs.YtjpelmgihpmohaaGreatDoor
namespace Rows

/-- THE TIED CARD OF 'credenzalaw21.BootCands'. -/
def bootCandsCard : Claim7 := { stood := { row := bootCandsRow, standIns := [], harness := (true, "785f4ad4adeb8c19b95feeeb59783b86fe8f0b18e81ea564fe252fc6f507f039"), looks := true }, kinds := [], alts := [], laidByText := true, laidKinds := [.data, .data, .data, .pinned, .data, .handle, .sentinel, .sentinel], laidTests := true, laidLooks := .later }
def BootCandsCardSaid : Prop := Claim7.holds Tryz.pinned (.plain (OpenSpec.ofChange bootCandsSpec)) bootCandsCard

/-- THE TIED CARD OF 'credenzalaw27.MenuTexts'. -/
def menuTextsCard : Claim7 := { stood := { row := menuTextsRow, standIns := [], harness := (true, "785f4ad4adeb8c19b95feeeb59783b86fe8f0b18e81ea564fe252fc6f507f039"), looks := true }, kinds := [], alts := [], laidByText := true, laidKinds := [.data, .data, .data, .pinned, .data, .sentinel, .sentinel, .handle], laidTests := true, laidLooks := .later }
def MenuTextsCardSaid : Prop := Claim7.holds Tryz.pinned (.plain (OpenSpec.ofChange menuTextsSpec)) menuTextsCard

/-- THE TIED CARD OF 'credenzalaw27.MenuBreaks'. -/
def menuBreaksCard : Claim7 := { stood := { row := menuBreaksRow, standIns := [], harness := (true, "785f4ad4adeb8c19b95feeeb59783b86fe8f0b18e81ea564fe252fc6f507f039"), looks := true }, kinds := [], alts := [], laidByText := true, laidKinds := [.data, .data, .data, .pinned, .data, .sentinel, .sentinel, .handle], laidTests := true, laidLooks := .later }
def MenuBreaksCardSaid : Prop := Claim7.holds Tryz.pinned (.plain (OpenSpec.ofChange menuBreaksSpec)) menuBreaksCard

/-- THE SECOND FORM's CARD OF 'credenzalaw21.BootCands'. -/
def bootCandsUptoCard : Claim7 := { stood := { row := bootCandsUptoRow, standIns := [], harness := (true, "785f4ad4adeb8c19b95feeeb59783b86fe8f0b18e81ea564fe252fc6f507f039"), looks := true }, kinds := [], alts := [], laidByText := true, laidKinds := [.data, .data, .data, .pinned, .data, .handle, .sentinel, .sentinel], laidTests := true, laidLooks := .later }
def BootCandsUptoCardSaid : Prop := Claim7.holds Tryz.pinned (.plain (OpenSpec.upto bootCandsSpec)) bootCandsUptoCard

/-- THE SECOND FORM's CARD OF 'credenzalaw27.MenuTexts'. -/
def menuTextsUptoCard : Claim7 := { stood := { row := menuTextsUptoRow, standIns := [], harness := (true, "785f4ad4adeb8c19b95feeeb59783b86fe8f0b18e81ea564fe252fc6f507f039"), looks := true }, kinds := [], alts := [], laidByText := true, laidKinds := [.data, .data, .data, .pinned, .data, .sentinel, .sentinel, .handle], laidTests := true, laidLooks := .later }
def MenuTextsUptoCardSaid : Prop := Claim7.holds Tryz.pinned (.plain (OpenSpec.upto menuTextsSpec)) menuTextsUptoCard

/-- THE SECOND FORM's CARD OF 'credenzalaw27.MenuBreaks'. -/
def menuBreaksUptoCard : Claim7 := { stood := { row := menuBreaksUptoRow, standIns := [], harness := (true, "785f4ad4adeb8c19b95feeeb59783b86fe8f0b18e81ea564fe252fc6f507f039"), looks := true }, kinds := [], alts := [], laidByText := true, laidKinds := [.data, .data, .data, .pinned, .data, .sentinel, .sentinel, .handle], laidTests := true, laidLooks := .later }
def MenuBreaksUptoCardSaid : Prop := Claim7.holds Tryz.pinned (.plain (OpenSpec.upto menuBreaksSpec)) menuBreaksUptoCard
end Rows
end Go.Proofs.YtjpelmgihpmohaaGreatDoor
