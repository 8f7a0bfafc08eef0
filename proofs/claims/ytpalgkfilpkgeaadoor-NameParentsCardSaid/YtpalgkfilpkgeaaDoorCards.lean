/-
  DERIVED. GIVEN WITH THE SEED: THE CARDS: each row of YtpalgkfilpkgeaaDoorRows.lean that lists a variable, with what it lists TIED to the program's text (the seventh form; the later family's looks); each row that meets fmt, with fmt's text TOLD by the authors' own Lean function (tested against real Go, not proved from fmt's source: count such statements apart). THE CARD IS WHAT COUNTS. Prove the row's statement (the work); the ties are given (YtpalgkfilpkgeaaDoorTie.lean); close each card by the builder's one call (the guide's Derived/Test/ToyasCard.lean, 'card_holds'). Laid BY PROGRAM, IN A SANDBOX (cutbox-door.mjs). By AI agents, Wed Nov 11 2026. No macro, syntax, notation, axiom, sorry.
-/
import Derived.Test.YtpalgkfilpkgeaaDoorRows
import GoSem.ClaimSeven
namespace Go.Proofs.YtpalgkfilpkgeaaDoor
namespace Rows

/-- THE TIED CARD OF 'credenzalaw9.NamePaths'. -/
def namePathsCard : Claim7 := { stood := { row := namePathsRow, standIns := [], harness := (true, "4a1f047c142d21b13368e73afc54e79557c1dddfff4b6ce21128e821490b1e91"), looks := false }, kinds := [], alts := [], laidByText := true, laidKinds := [.data, .pinned], laidTests := true, laidLooks := .later }
def NamePathsCardSaid : Prop := Claim7.holds Tryd.pinned (.plain (OpenSpec.ofChange namePathsSpec)) namePathsCard

/-- THE TIED CARD OF 'credenzalaw9.NameJoins'. -/
def nameJoinsCard : Claim7 := { stood := { row := nameJoinsRow, standIns := [], harness := (true, "4a1f047c142d21b13368e73afc54e79557c1dddfff4b6ce21128e821490b1e91"), looks := false }, kinds := [], alts := [], laidByText := true, laidKinds := [.data, .pinned], laidTests := true, laidLooks := .later }
def NameJoinsCardSaid : Prop := Claim7.holds Tryd.pinned (.plain (OpenSpec.ofChange nameJoinsSpec)) nameJoinsCard

/-- THE TIED CARD OF 'credenzalaw9.NameBytes'. -/
def nameBytesCard : Claim7 := { stood := { row := nameBytesRow, standIns := [], harness := (true, "4a1f047c142d21b13368e73afc54e79557c1dddfff4b6ce21128e821490b1e91"), looks := false }, kinds := [], alts := [], laidByText := true, laidKinds := [.data, .pinned], laidTests := true, laidLooks := .later }
def NameBytesCardSaid : Prop := Claim7.holds Tryd.pinned (.plain (OpenSpec.ofChange nameBytesSpec)) nameBytesCard

/-- THE TIED CARD OF 'credenzalaw9.NameParents'. -/
def nameParentsCard : Claim7 := { stood := { row := nameParentsRow, standIns := [], harness := (true, "4a1f047c142d21b13368e73afc54e79557c1dddfff4b6ce21128e821490b1e91"), looks := false }, kinds := [], alts := [], laidByText := true, laidKinds := [.data, .pinned], laidTests := true, laidLooks := .later }
def NameParentsCardSaid : Prop := Claim7.holds Tryd.pinned (.plain (OpenSpec.ofChange nameParentsSpec)) nameParentsCard

/-- THE TIED CARD OF 'credenzalaw9.NameDeep'. -/
def nameDeepCard : Claim7 := { stood := { row := nameDeepRow, standIns := [], harness := (true, "4a1f047c142d21b13368e73afc54e79557c1dddfff4b6ce21128e821490b1e91"), looks := false }, kinds := [], alts := [], laidByText := true, laidKinds := [.data, .pinned], laidTests := true, laidLooks := .later }
def NameDeepCardSaid : Prop := Claim7.holds Tryd.pinned (.plain (OpenSpec.ofChange nameDeepSpec)) nameDeepCard

/-- THE TIED CARD OF 'credenzalaw9.NameWithin'. -/
def nameWithinCard : Claim7 := { stood := { row := nameWithinRow, standIns := [], harness := (true, "4a1f047c142d21b13368e73afc54e79557c1dddfff4b6ce21128e821490b1e91"), looks := false }, kinds := [], alts := [], laidByText := true, laidKinds := [.data, .pinned], laidTests := true, laidLooks := .later }
def NameWithinCardSaid : Prop := Claim7.holds Tryd.pinned (.plain (OpenSpec.ofChange nameWithinSpec)) nameWithinCard

/-- THE TIED CARD OF 'credenzalaw9.NameTells'. -/
def nameTellsCard : Claim7 := { stood := { row := nameTellsRow, standIns := [], harness := (true, "4a1f047c142d21b13368e73afc54e79557c1dddfff4b6ce21128e821490b1e91"), looks := false }, kinds := [], alts := [], laidByText := true, laidKinds := [.data, .pinned], laidTests := true, laidLooks := .later }
def NameTellsCardSaid : Prop := Claim7.holds Tryd.pinned (.plain (OpenSpec.ofChange nameTellsSpec)) nameTellsCard

/-- THE SECOND FORM's CARD OF 'credenzalaw9.NamePaths'. -/
def namePathsUptoCard : Claim7 := { stood := { row := namePathsUptoRow, standIns := [], harness := (true, "4a1f047c142d21b13368e73afc54e79557c1dddfff4b6ce21128e821490b1e91"), looks := false }, kinds := [], alts := [], laidByText := true, laidKinds := [.data, .pinned], laidTests := true, laidLooks := .later }
def NamePathsUptoCardSaid : Prop := Claim7.holds Tryd.pinned (.plain (OpenSpec.upto namePathsSpec)) namePathsUptoCard

/-- THE SECOND FORM's CARD OF 'credenzalaw9.NameJoins'. -/
def nameJoinsUptoCard : Claim7 := { stood := { row := nameJoinsUptoRow, standIns := [], harness := (true, "4a1f047c142d21b13368e73afc54e79557c1dddfff4b6ce21128e821490b1e91"), looks := false }, kinds := [], alts := [], laidByText := true, laidKinds := [.data, .pinned], laidTests := true, laidLooks := .later }
def NameJoinsUptoCardSaid : Prop := Claim7.holds Tryd.pinned (.plain (OpenSpec.upto nameJoinsSpec)) nameJoinsUptoCard

/-- THE SECOND FORM's CARD OF 'credenzalaw9.NameBytes'. -/
def nameBytesUptoCard : Claim7 := { stood := { row := nameBytesUptoRow, standIns := [], harness := (true, "4a1f047c142d21b13368e73afc54e79557c1dddfff4b6ce21128e821490b1e91"), looks := false }, kinds := [], alts := [], laidByText := true, laidKinds := [.data, .pinned], laidTests := true, laidLooks := .later }
def NameBytesUptoCardSaid : Prop := Claim7.holds Tryd.pinned (.plain (OpenSpec.upto nameBytesSpec)) nameBytesUptoCard

/-- THE SECOND FORM's CARD OF 'credenzalaw9.NameParents'. -/
def nameParentsUptoCard : Claim7 := { stood := { row := nameParentsUptoRow, standIns := [], harness := (true, "4a1f047c142d21b13368e73afc54e79557c1dddfff4b6ce21128e821490b1e91"), looks := false }, kinds := [], alts := [], laidByText := true, laidKinds := [.data, .pinned], laidTests := true, laidLooks := .later }
def NameParentsUptoCardSaid : Prop := Claim7.holds Tryd.pinned (.plain (OpenSpec.upto nameParentsSpec)) nameParentsUptoCard

/-- THE SECOND FORM's CARD OF 'credenzalaw9.NameDeep'. -/
def nameDeepUptoCard : Claim7 := { stood := { row := nameDeepUptoRow, standIns := [], harness := (true, "4a1f047c142d21b13368e73afc54e79557c1dddfff4b6ce21128e821490b1e91"), looks := false }, kinds := [], alts := [], laidByText := true, laidKinds := [.data, .pinned], laidTests := true, laidLooks := .later }
def NameDeepUptoCardSaid : Prop := Claim7.holds Tryd.pinned (.plain (OpenSpec.upto nameDeepSpec)) nameDeepUptoCard

/-- THE SECOND FORM's CARD OF 'credenzalaw9.NameWithin'. -/
def nameWithinUptoCard : Claim7 := { stood := { row := nameWithinUptoRow, standIns := [], harness := (true, "4a1f047c142d21b13368e73afc54e79557c1dddfff4b6ce21128e821490b1e91"), looks := false }, kinds := [], alts := [], laidByText := true, laidKinds := [.data, .pinned], laidTests := true, laidLooks := .later }
def NameWithinUptoCardSaid : Prop := Claim7.holds Tryd.pinned (.plain (OpenSpec.upto nameWithinSpec)) nameWithinUptoCard

/-- THE SECOND FORM's CARD OF 'credenzalaw9.NameTells'. -/
def nameTellsUptoCard : Claim7 := { stood := { row := nameTellsUptoRow, standIns := [], harness := (true, "4a1f047c142d21b13368e73afc54e79557c1dddfff4b6ce21128e821490b1e91"), looks := false }, kinds := [], alts := [], laidByText := true, laidKinds := [.data, .pinned], laidTests := true, laidLooks := .later }
def NameTellsUptoCardSaid : Prop := Claim7.holds Tryd.pinned (.plain (OpenSpec.upto nameTellsSpec)) nameTellsUptoCard
end Rows
end Go.Proofs.YtpalgkfilpkgeaaDoor
