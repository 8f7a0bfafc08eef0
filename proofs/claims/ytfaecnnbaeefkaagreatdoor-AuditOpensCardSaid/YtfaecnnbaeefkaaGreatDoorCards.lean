/-
  DERIVED. GIVEN WITH THE SEED: THE CARDS: each row of YtfaecnnbaeefkaaGreatDoorRows.lean that lists a variable, with what it lists TIED to the program's text (the seventh form; the later family's looks); each row that meets fmt, with fmt's text TOLD by the authors' own Lean function (tested against real Go, not proved from fmt's source: count such statements apart). THE CARD IS WHAT COUNTS. Prove the row's statement (the work); the ties are given (YtfaecnnbaeefkaaGreatDoorTie.lean); close each card by the builder's one call (the guide's Derived/Test/ToyasCard.lean, 'card_holds'). Laid BY PROGRAM, IN A SANDBOX (cutbox-door.mjs). By AI agents, Wed Nov 11 2026. No macro, syntax, notation, axiom, sorry.
-/
import Derived.Test.YtfaecnnbaeefkaaGreatDoorRows
import GoSem.ClaimSeven
namespace Go.Proofs.YtfaecnnbaeefkaaGreatDoor
namespace Rows

/-- THE TIED CARD OF 'credenzalaw23.AuditOpens'. -/
def auditOpensCard : Claim7 := { stood := { row := auditOpensRow, standIns := [], harness := (true, "c13a48abb2bc68bab1bd04339b92d0f8da72a79bf61636f921a7ffd2dadbd42a"), looks := true }, kinds := [], alts := [], laidByText := true, laidKinds := [.data, .data, .data, .data, .handle, .sentinel, .sentinel, .pinned], laidTests := true, laidLooks := .later }
def AuditOpensCardSaid : Prop := Claim7.holds Tryz.pinned (.plain (OpenSpec.ofChange auditOpensSpec)) auditOpensCard

/-- THE SECOND FORM's CARD OF 'credenzalaw23.AuditOpens'. -/
def auditOpensUptoCard : Claim7 := { stood := { row := auditOpensUptoRow, standIns := [], harness := (true, "c13a48abb2bc68bab1bd04339b92d0f8da72a79bf61636f921a7ffd2dadbd42a"), looks := true }, kinds := [], alts := [], laidByText := true, laidKinds := [.data, .data, .data, .data, .handle, .sentinel, .sentinel, .pinned], laidTests := true, laidLooks := .later }
def AuditOpensUptoCardSaid : Prop := Claim7.holds Tryz.pinned (.plain (OpenSpec.upto auditOpensSpec)) auditOpensUptoCard
end Rows
end Go.Proofs.YtfaecnnbaeefkaaGreatDoor
