/-
  NARROWER THAN 'FOR EVERY INPUT', by the rows' own cells (each row's printed sentence says how): NamePaths: laid · NameJoins: laid · NameBytes: laid · NameParents: laid · NameDeep: laid · NameWithin: laid · NameTells: laid.
  DERIVED. THE GIVEN ROWS OF THIS SEAT. 7 by the template 'for every input the law returns true; each argument reads behind the call as it read before'; 0 by the template 'total and deterministic' (their statements: YtpalgkfilpkgeaaDoorTotals.lean).
  GIVEN WITH THE SEED: the statements are not yours to turn. If you find one false, say at which input.
  Laid BY PROGRAM, IN A SANDBOX (cutbox-rows.mjs): the forced cells as the released guide's own fill.sh prints them over the translation c75822a7177848e7… (all of the seat's roots in one cut). By AI agents, Wed Nov 11 2026. No macro, syntax, notation, axiom, sorry.
-/
import Derived.Test.YtpalgkfilpkgeaaDoorChecked
import GoSem.PinnedTables
import GoSem.Claim
import GoSem.ClaimJoined
import GoSem.ClaimMapViews
import Derived.JoinedTies
import Derived.KernelRfl
namespace Go.Proofs.YtpalgkfilpkgeaaDoor
/- THE CELL 'sum', in the pinned program and in every row, IS THE sha256 OF THE DUMP (.gsa) THAT YtpalgkfilpkgeaaDoorProg.lean LOADS. Nothing in Lean hashes anything: it is a label: what it is worth is what the hold of that sum in a sandbox is worth. -/
noncomputable def Tryd.pinned : Pinned := { name := "ytpalgkfilpkgeaadoor", sum := "c75822a7177848e7a1d66fdbe58dddf2b8cdc1afab25b304b184067b6ddb75d6", checked := Tryd.checked }
namespace Rows
def none {H : Type} : Left H := { results := [], args := [] }

/- WHAT THE LISTED PACKAGE-LEVEL VARIABLES READ AS WHEN THE CALL BEGINS. Each datum BY PROGRAM (the guide's laid-datum.mjs) off the statement by which the dump's own 'gosem.cut.vars' lays the variable. In a bare row this is a premise. The card (YtpalgkfilpkgeaaDoorCards.lean) ties it to the program's text. -/
def laid_unicode_utf8_acceptRanges {H : Type} : DataW H := .agg [.agg [.lit (.int .u8 128), .lit (.int .u8 191)], .agg [.lit (.int .u8 160), .lit (.int .u8 191)], .agg [.lit (.int .u8 128), .lit (.int .u8 159)], .agg [.lit (.int .u8 144), .lit (.int .u8 191)], .agg [.lit (.int .u8 128), .lit (.int .u8 143)], .agg [.lit (.int .u8 0), .lit (.int .u8 0)], .agg [.lit (.int .u8 0), .lit (.int .u8 0)], .agg [.lit (.int .u8 0), .lit (.int .u8 0)], .agg [.lit (.int .u8 0), .lit (.int .u8 0)], .agg [.lit (.int .u8 0), .lit (.int .u8 0)], .agg [.lit (.int .u8 0), .lit (.int .u8 0)], .agg [.lit (.int .u8 0), .lit (.int .u8 0)], .agg [.lit (.int .u8 0), .lit (.int .u8 0)], .agg [.lit (.int .u8 0), .lit (.int .u8 0)], .agg [.lit (.int .u8 0), .lit (.int .u8 0)], .agg [.lit (.int .u8 0), .lit (.int .u8 0)]]
/-- One of Go's own tables, pinned by name: the form's constant. -/
def laid_unicode_utf8_first : DataW Unit := Go.Pinned.utf8First

/-- 'credenzalaw9.NamePaths': WHATEVER THE INPUT: true; the input reads as it did. -/
def namePathsSpec : ChangeSpec := { name := "namePaths", fn := fun _ => fun
  | [d1, d2] => { results := [.lit (.bool true)], args := [d1, d2] }
  | _ => none }
def namePathsRow : OpenClaim := { program := "ytpalgkfilpkgeaadoor", sum := "c75822a7177848e7a1d66fdbe58dddf2b8cdc1afab25b304b184067b6ddb75d6", func := "credenza/credenzalaw9.NamePaths", spec := "namePaths", inPlace := ["internal/bytealg.CountString", "internal/bytealg.IndexByteString", "internal/bytealg.IndexString", "internal/abi.NoEscape", "internal/bytealg.MakeNoZero"], unfollowed := true, recurses := true, named := ["unicode/utf8.first", "unicode/utf8.acceptRanges", "internal/bytealg.MaxLen"], apart := false, laid := [("unicode/utf8.acceptRanges", laid_unicode_utf8_acceptRanges), ("unicode/utf8.first", laid_unicode_utf8_first)] }
def NamePathsSaid : Prop := namePathsRow.holds Tryd.pinned (OpenSpec.ofChange namePathsSpec)

/-- ITS FALSE NEIGHBOUR: 'it returns false'. Refute it at one input. -/
def namePathsWrong : ChangeSpec := { name := "namePaths", fn := fun _ => fun
  | [d1, d2] => { results := [.lit (.bool false)], args := [d1, d2] }
  | _ => none }
def NamePathsWrongFalsely : Prop := namePathsRow.holds Tryd.pinned (OpenSpec.ofChange namePathsWrong)

/-- 'credenzalaw9.NameJoins': WHATEVER THE INPUT: true; the input reads as it did. -/
def nameJoinsSpec : ChangeSpec := { name := "nameJoins", fn := fun _ => fun
  | [d1, d2] => { results := [.lit (.bool true)], args := [d1, d2] }
  | _ => none }
def nameJoinsRow : OpenClaim := { program := "ytpalgkfilpkgeaadoor", sum := "c75822a7177848e7a1d66fdbe58dddf2b8cdc1afab25b304b184067b6ddb75d6", func := "credenza/credenzalaw9.NameJoins", spec := "nameJoins", inPlace := ["internal/bytealg.CountString", "internal/bytealg.IndexByteString", "internal/bytealg.IndexString", "internal/abi.NoEscape", "internal/bytealg.MakeNoZero"], unfollowed := true, recurses := true, named := ["unicode/utf8.first", "unicode/utf8.acceptRanges", "internal/bytealg.MaxLen"], apart := false, laid := [("unicode/utf8.acceptRanges", laid_unicode_utf8_acceptRanges), ("unicode/utf8.first", laid_unicode_utf8_first)] }
def NameJoinsSaid : Prop := nameJoinsRow.holds Tryd.pinned (OpenSpec.ofChange nameJoinsSpec)

/-- ITS FALSE NEIGHBOUR: 'it returns false'. Refute it at one input. -/
def nameJoinsWrong : ChangeSpec := { name := "nameJoins", fn := fun _ => fun
  | [d1, d2] => { results := [.lit (.bool false)], args := [d1, d2] }
  | _ => none }
def NameJoinsWrongFalsely : Prop := nameJoinsRow.holds Tryd.pinned (OpenSpec.ofChange nameJoinsWrong)

/-- 'credenzalaw9.NameBytes': WHATEVER THE INPUT: true; the input reads as it did. -/
def nameBytesSpec : ChangeSpec := { name := "nameBytes", fn := fun _ => fun
  | [d1, d2, d3] => { results := [.lit (.bool true)], args := [d1, d2, d3] }
  | _ => none }
def nameBytesRow : OpenClaim := { program := "ytpalgkfilpkgeaadoor", sum := "c75822a7177848e7a1d66fdbe58dddf2b8cdc1afab25b304b184067b6ddb75d6", func := "credenza/credenzalaw9.NameBytes", spec := "nameBytes", inPlace := ["internal/bytealg.IndexByteString", "internal/bytealg.CountString", "internal/bytealg.IndexString", "internal/abi.NoEscape", "internal/bytealg.MakeNoZero"], unfollowed := true, recurses := true, named := ["unicode/utf8.first", "unicode/utf8.acceptRanges", "internal/bytealg.MaxLen"], apart := false, laid := [("unicode/utf8.acceptRanges", laid_unicode_utf8_acceptRanges), ("unicode/utf8.first", laid_unicode_utf8_first)] }
def NameBytesSaid : Prop := nameBytesRow.holds Tryd.pinned (OpenSpec.ofChange nameBytesSpec)

/-- ITS FALSE NEIGHBOUR: 'it returns false'. Refute it at one input. -/
def nameBytesWrong : ChangeSpec := { name := "nameBytes", fn := fun _ => fun
  | [d1, d2, d3] => { results := [.lit (.bool false)], args := [d1, d2, d3] }
  | _ => none }
def NameBytesWrongFalsely : Prop := nameBytesRow.holds Tryd.pinned (OpenSpec.ofChange nameBytesWrong)

/-- 'credenzalaw9.NameParents': WHATEVER THE INPUT: true; the input reads as it did. -/
def nameParentsSpec : ChangeSpec := { name := "nameParents", fn := fun _ => fun
  | [d1, d2, d3] => { results := [.lit (.bool true)], args := [d1, d2, d3] }
  | _ => none }
def nameParentsRow : OpenClaim := { program := "ytpalgkfilpkgeaadoor", sum := "c75822a7177848e7a1d66fdbe58dddf2b8cdc1afab25b304b184067b6ddb75d6", func := "credenza/credenzalaw9.NameParents", spec := "nameParents", inPlace := ["internal/bytealg.CountString", "internal/bytealg.IndexByteString", "internal/bytealg.IndexString", "internal/abi.NoEscape", "internal/bytealg.MakeNoZero"], unfollowed := true, recurses := true, named := ["unicode/utf8.first", "unicode/utf8.acceptRanges", "internal/bytealg.MaxLen"], apart := false, laid := [("unicode/utf8.acceptRanges", laid_unicode_utf8_acceptRanges), ("unicode/utf8.first", laid_unicode_utf8_first)] }
def NameParentsSaid : Prop := nameParentsRow.holds Tryd.pinned (OpenSpec.ofChange nameParentsSpec)

/-- ITS FALSE NEIGHBOUR: 'it returns false'. Refute it at one input. -/
def nameParentsWrong : ChangeSpec := { name := "nameParents", fn := fun _ => fun
  | [d1, d2, d3] => { results := [.lit (.bool false)], args := [d1, d2, d3] }
  | _ => none }
def NameParentsWrongFalsely : Prop := nameParentsRow.holds Tryd.pinned (OpenSpec.ofChange nameParentsWrong)

/-- 'credenzalaw9.NameDeep': WHATEVER THE INPUT: true; the input reads as it did. -/
def nameDeepSpec : ChangeSpec := { name := "nameDeep", fn := fun _ => fun
  | [d] => { results := [.lit (.bool true)], args := [d] }
  | _ => none }
def nameDeepRow : OpenClaim := { program := "ytpalgkfilpkgeaadoor", sum := "c75822a7177848e7a1d66fdbe58dddf2b8cdc1afab25b304b184067b6ddb75d6", func := "credenza/credenzalaw9.NameDeep", spec := "nameDeep", inPlace := ["internal/bytealg.CountString", "internal/bytealg.IndexByteString", "internal/bytealg.IndexString", "internal/abi.NoEscape", "internal/bytealg.MakeNoZero"], unfollowed := true, recurses := true, named := ["unicode/utf8.first", "unicode/utf8.acceptRanges", "internal/bytealg.MaxLen"], apart := false, laid := [("unicode/utf8.acceptRanges", laid_unicode_utf8_acceptRanges), ("unicode/utf8.first", laid_unicode_utf8_first)] }
def NameDeepSaid : Prop := nameDeepRow.holds Tryd.pinned (OpenSpec.ofChange nameDeepSpec)

/-- ITS FALSE NEIGHBOUR: 'it returns false'. Refute it at one input. -/
def nameDeepWrong : ChangeSpec := { name := "nameDeep", fn := fun _ => fun
  | [d] => { results := [.lit (.bool false)], args := [d] }
  | _ => none }
def NameDeepWrongFalsely : Prop := nameDeepRow.holds Tryd.pinned (OpenSpec.ofChange nameDeepWrong)

/-- 'credenzalaw9.NameWithin': WHATEVER THE INPUT: true; the input reads as it did. -/
def nameWithinSpec : ChangeSpec := { name := "nameWithin", fn := fun _ => fun
  | [d1, d2, d3] => { results := [.lit (.bool true)], args := [d1, d2, d3] }
  | _ => none }
def nameWithinRow : OpenClaim := { program := "ytpalgkfilpkgeaadoor", sum := "c75822a7177848e7a1d66fdbe58dddf2b8cdc1afab25b304b184067b6ddb75d6", func := "credenza/credenzalaw9.NameWithin", spec := "nameWithin", inPlace := ["internal/bytealg.CountString", "internal/bytealg.IndexByteString", "internal/bytealg.IndexString", "internal/abi.NoEscape", "internal/bytealg.MakeNoZero"], unfollowed := true, recurses := true, named := ["unicode/utf8.first", "unicode/utf8.acceptRanges", "internal/bytealg.MaxLen"], apart := false, laid := [("unicode/utf8.acceptRanges", laid_unicode_utf8_acceptRanges), ("unicode/utf8.first", laid_unicode_utf8_first)] }
def NameWithinSaid : Prop := nameWithinRow.holds Tryd.pinned (OpenSpec.ofChange nameWithinSpec)

/-- ITS FALSE NEIGHBOUR: 'it returns false'. Refute it at one input. -/
def nameWithinWrong : ChangeSpec := { name := "nameWithin", fn := fun _ => fun
  | [d1, d2, d3] => { results := [.lit (.bool false)], args := [d1, d2, d3] }
  | _ => none }
def NameWithinWrongFalsely : Prop := nameWithinRow.holds Tryd.pinned (OpenSpec.ofChange nameWithinWrong)

/-- 'credenzalaw9.NameTells': WHATEVER THE INPUT: true; the input reads as it did. -/
def nameTellsSpec : ChangeSpec := { name := "nameTells", fn := fun _ => fun
  | [d1, d2] => { results := [.lit (.bool true)], args := [d1, d2] }
  | _ => none }
def nameTellsRow : OpenClaim := { program := "ytpalgkfilpkgeaadoor", sum := "c75822a7177848e7a1d66fdbe58dddf2b8cdc1afab25b304b184067b6ddb75d6", func := "credenza/credenzalaw9.NameTells", spec := "nameTells", inPlace := ["internal/bytealg.CountString", "internal/bytealg.IndexByteString", "internal/bytealg.IndexString", "internal/abi.NoEscape", "internal/bytealg.MakeNoZero"], unfollowed := true, recurses := true, named := ["unicode/utf8.first", "unicode/utf8.acceptRanges", "internal/bytealg.MaxLen"], apart := false, laid := [("unicode/utf8.acceptRanges", laid_unicode_utf8_acceptRanges), ("unicode/utf8.first", laid_unicode_utf8_first)] }
def NameTellsSaid : Prop := nameTellsRow.holds Tryd.pinned (OpenSpec.ofChange nameTellsSpec)

/-- ITS FALSE NEIGHBOUR: 'it returns false'. Refute it at one input. -/
def nameTellsWrong : ChangeSpec := { name := "nameTells", fn := fun _ => fun
  | [d1, d2] => { results := [.lit (.bool false)], args := [d1, d2] }
  | _ => none }
def NameTellsWrongFalsely : Prop := nameTellsRow.holds Tryd.pinned (OpenSpec.ofChange nameTellsWrong)

/- THE SECOND FORM. 'bulk': how many values and letters a reading holds, each counted each time it is reached (what is shared counts as often as it is met; a slice's spare places count too). A statement '..UptoSaid' is the law's where the arguments, and the package variables that the reading takes, are together of bulk at most 1048576: NARROWER than '..Said'. Prove '..Said' where nothing that the law and all that it calls make is longer than what came in: it says more and counts as full. Else prove '..UptoSaid'. A law counts once. -/
mutual
def uptoBulk {H : Type} : DataW H → Nat
  | .lit (.string bytes) => bytes.length + 1
  | .lit _ => 1
  | .nil => 1
  | .ptr d => uptoBulk d + 1
  | .slice elems spare => uptoBulkAll elems + uptoBulkAll spare + 1
  | .agg parts => uptoBulkAll parts + 1
  | .iface _ d => uptoBulk d + 1
  | .map entries => uptoBulkEntries entries + 1
  | .held _ => 1
def uptoBulkAll {H : Type} : List (DataW H) → Nat
  | [] => 0
  | d :: r => uptoBulk d + uptoBulkAll r
def uptoBulkEntries {H : Type} : List (Lit × DataW H) → Nat
  | [] => 0
  | x :: r => uptoBulkEntry x + uptoBulkEntries r
def uptoBulkEntry {H : Type} : Lit × DataW H → Nat
  | (.string bytes, d) => bytes.length + uptoBulk d + 1
  | (_, d) => uptoBulk d + 1
 end
def uptoSmall : (H : Type) → List (DataW H) → Bool := fun _ ds => decide (uptoBulkAll ds ≤ 1048576)
def OpenSpec.upto (s : _root_.Go.ChangeSpec) : _root_.Go.OpenSpec := { _root_.Go.OpenSpec.ofChange s with cond := some uptoSmall }

/-- 'credenzalaw9.NamePaths', WHERE WHAT IT READS IS OF BULK AT MOST 1048576: true; the input reads as it did. -/
def namePathsUptoRow : OpenClaim := { program := "ytpalgkfilpkgeaadoor", sum := "c75822a7177848e7a1d66fdbe58dddf2b8cdc1afab25b304b184067b6ddb75d6", func := "credenza/credenzalaw9.NamePaths", spec := "namePaths", inPlace := ["internal/bytealg.CountString", "internal/bytealg.IndexByteString", "internal/bytealg.IndexString", "internal/abi.NoEscape", "internal/bytealg.MakeNoZero"], unfollowed := true, recurses := true, named := ["unicode/utf8.first", "unicode/utf8.acceptRanges", "internal/bytealg.MaxLen"], apart := false, laid := [("unicode/utf8.acceptRanges", laid_unicode_utf8_acceptRanges), ("unicode/utf8.first", laid_unicode_utf8_first)], narrowed := true }
def NamePathsUptoSaid : Prop := namePathsUptoRow.holds Tryd.pinned (OpenSpec.upto namePathsSpec)

/-- 'credenzalaw9.NameJoins', WHERE WHAT IT READS IS OF BULK AT MOST 1048576: true; the input reads as it did. -/
def nameJoinsUptoRow : OpenClaim := { program := "ytpalgkfilpkgeaadoor", sum := "c75822a7177848e7a1d66fdbe58dddf2b8cdc1afab25b304b184067b6ddb75d6", func := "credenza/credenzalaw9.NameJoins", spec := "nameJoins", inPlace := ["internal/bytealg.CountString", "internal/bytealg.IndexByteString", "internal/bytealg.IndexString", "internal/abi.NoEscape", "internal/bytealg.MakeNoZero"], unfollowed := true, recurses := true, named := ["unicode/utf8.first", "unicode/utf8.acceptRanges", "internal/bytealg.MaxLen"], apart := false, laid := [("unicode/utf8.acceptRanges", laid_unicode_utf8_acceptRanges), ("unicode/utf8.first", laid_unicode_utf8_first)], narrowed := true }
def NameJoinsUptoSaid : Prop := nameJoinsUptoRow.holds Tryd.pinned (OpenSpec.upto nameJoinsSpec)

/-- 'credenzalaw9.NameBytes', WHERE WHAT IT READS IS OF BULK AT MOST 1048576: true; the input reads as it did. -/
def nameBytesUptoRow : OpenClaim := { program := "ytpalgkfilpkgeaadoor", sum := "c75822a7177848e7a1d66fdbe58dddf2b8cdc1afab25b304b184067b6ddb75d6", func := "credenza/credenzalaw9.NameBytes", spec := "nameBytes", inPlace := ["internal/bytealg.IndexByteString", "internal/bytealg.CountString", "internal/bytealg.IndexString", "internal/abi.NoEscape", "internal/bytealg.MakeNoZero"], unfollowed := true, recurses := true, named := ["unicode/utf8.first", "unicode/utf8.acceptRanges", "internal/bytealg.MaxLen"], apart := false, laid := [("unicode/utf8.acceptRanges", laid_unicode_utf8_acceptRanges), ("unicode/utf8.first", laid_unicode_utf8_first)], narrowed := true }
def NameBytesUptoSaid : Prop := nameBytesUptoRow.holds Tryd.pinned (OpenSpec.upto nameBytesSpec)

/-- 'credenzalaw9.NameParents', WHERE WHAT IT READS IS OF BULK AT MOST 1048576: true; the input reads as it did. -/
def nameParentsUptoRow : OpenClaim := { program := "ytpalgkfilpkgeaadoor", sum := "c75822a7177848e7a1d66fdbe58dddf2b8cdc1afab25b304b184067b6ddb75d6", func := "credenza/credenzalaw9.NameParents", spec := "nameParents", inPlace := ["internal/bytealg.CountString", "internal/bytealg.IndexByteString", "internal/bytealg.IndexString", "internal/abi.NoEscape", "internal/bytealg.MakeNoZero"], unfollowed := true, recurses := true, named := ["unicode/utf8.first", "unicode/utf8.acceptRanges", "internal/bytealg.MaxLen"], apart := false, laid := [("unicode/utf8.acceptRanges", laid_unicode_utf8_acceptRanges), ("unicode/utf8.first", laid_unicode_utf8_first)], narrowed := true }
def NameParentsUptoSaid : Prop := nameParentsUptoRow.holds Tryd.pinned (OpenSpec.upto nameParentsSpec)

/-- 'credenzalaw9.NameDeep', WHERE WHAT IT READS IS OF BULK AT MOST 1048576: true; the input reads as it did. -/
def nameDeepUptoRow : OpenClaim := { program := "ytpalgkfilpkgeaadoor", sum := "c75822a7177848e7a1d66fdbe58dddf2b8cdc1afab25b304b184067b6ddb75d6", func := "credenza/credenzalaw9.NameDeep", spec := "nameDeep", inPlace := ["internal/bytealg.CountString", "internal/bytealg.IndexByteString", "internal/bytealg.IndexString", "internal/abi.NoEscape", "internal/bytealg.MakeNoZero"], unfollowed := true, recurses := true, named := ["unicode/utf8.first", "unicode/utf8.acceptRanges", "internal/bytealg.MaxLen"], apart := false, laid := [("unicode/utf8.acceptRanges", laid_unicode_utf8_acceptRanges), ("unicode/utf8.first", laid_unicode_utf8_first)], narrowed := true }
def NameDeepUptoSaid : Prop := nameDeepUptoRow.holds Tryd.pinned (OpenSpec.upto nameDeepSpec)

/-- 'credenzalaw9.NameWithin', WHERE WHAT IT READS IS OF BULK AT MOST 1048576: true; the input reads as it did. -/
def nameWithinUptoRow : OpenClaim := { program := "ytpalgkfilpkgeaadoor", sum := "c75822a7177848e7a1d66fdbe58dddf2b8cdc1afab25b304b184067b6ddb75d6", func := "credenza/credenzalaw9.NameWithin", spec := "nameWithin", inPlace := ["internal/bytealg.CountString", "internal/bytealg.IndexByteString", "internal/bytealg.IndexString", "internal/abi.NoEscape", "internal/bytealg.MakeNoZero"], unfollowed := true, recurses := true, named := ["unicode/utf8.first", "unicode/utf8.acceptRanges", "internal/bytealg.MaxLen"], apart := false, laid := [("unicode/utf8.acceptRanges", laid_unicode_utf8_acceptRanges), ("unicode/utf8.first", laid_unicode_utf8_first)], narrowed := true }
def NameWithinUptoSaid : Prop := nameWithinUptoRow.holds Tryd.pinned (OpenSpec.upto nameWithinSpec)

/-- 'credenzalaw9.NameTells', WHERE WHAT IT READS IS OF BULK AT MOST 1048576: true; the input reads as it did. -/
def nameTellsUptoRow : OpenClaim := { program := "ytpalgkfilpkgeaadoor", sum := "c75822a7177848e7a1d66fdbe58dddf2b8cdc1afab25b304b184067b6ddb75d6", func := "credenza/credenzalaw9.NameTells", spec := "nameTells", inPlace := ["internal/bytealg.CountString", "internal/bytealg.IndexByteString", "internal/bytealg.IndexString", "internal/abi.NoEscape", "internal/bytealg.MakeNoZero"], unfollowed := true, recurses := true, named := ["unicode/utf8.first", "unicode/utf8.acceptRanges", "internal/bytealg.MaxLen"], apart := false, laid := [("unicode/utf8.acceptRanges", laid_unicode_utf8_acceptRanges), ("unicode/utf8.first", laid_unicode_utf8_first)], narrowed := true }
def NameTellsUptoSaid : Prop := nameTellsUptoRow.holds Tryd.pinned (OpenSpec.upto nameTellsSpec)

end Rows
end Go.Proofs.YtpalgkfilpkgeaaDoor
