/- The contracts of name.Join and of SameTexts once more, with a slice's length spelled otherwise than the list's. -/
import Derived.Test.YtpalgkfilpkgeaaDoorGiven7
namespace Go.Proofs.YtpalgkfilpkgeaaDoor.Given7
open Go.RowKit Go.Proofs.YtpalgkfilpkgeaaDoorW.PrintWords Go.Proofs.YtpalgkfilpkgeaaDoorW.PrintLast Go.Proofs.YtpalgkfilpkgeaaDoorW.PrintMore
open Go.Proofs.YtpalgkfilpkgeaaDoor Go.Proofs.YtpalgkfilpkgeaaDoor.Given2
theorem name_Join.callsN (A0 : Option Addr) (c0 : Nat) (l0 : List ByteArray) (r1 : ByteArray) (r2 : Bool) (w : World) (hr0 : Kd.C Kd.string w A0 l0.length l0) (hc0 : l0.length ≤ c0) (h : name_Join.f l0 = some (r1, r2)) (n : Nat) (hn : n = l0.length) :
    Calls Tryd.prog 11 #[.slice A0 n c0] w fun e w' => e = .returned (.tuple #[.string r1, .bool r2]) ∧ Below w.heap.size w w' := by
  subst hn; exact name_Join.calls A0 c0 l0 r1 r2 w hr0 hc0 h
theorem credenzaref2_SameTexts.callsN (A0 : Option Addr) (c0 : Nat) (l0 : List ByteArray) (A1 : Option Addr) (c1 : Nat) (l1 : List ByteArray) (r : Bool) (w : World) (hr0 : Kd.C Kd.string w A0 l0.length l0) (hc0 : l0.length ≤ c0) (hr1 : Kd.C Kd.string w A1 l1.length l1) (hc1 : l1.length ≤ c1) (h : credenzaref2_SameTexts.f l0 l1 = some r) (n : Nat) (hn : n = l1.length) :
    Calls Tryd.prog 14 #[.slice A0 l0.length c0, .slice A1 n c1] w fun e w' => e = .returned (.bool r) ∧ Drawn0 w w' := by
  subst hn; exact credenzaref2_SameTexts.calls A0 c0 l0 A1 c1 l1 r w hr0 hc0 hr1 hc1 h
end Go.Proofs.YtpalgkfilpkgeaaDoor.Given7
