/- The names' functions at this translation in round-free form: each call answers what the plain laws say. No condition but that lists are lists of strings in memory. -/
import Derived.Test.YtpalgkfilpkgeaaDoorRef3
namespace Go.Proofs.YtpalgkfilpkgeaaDoor.Given7
open Go.RowKit Go.Proofs.YtpalgkfilpkgeaaDoorW.PrintWords Go.Proofs.YtpalgkfilpkgeaaDoorW.PrintLast Go.Proofs.YtpalgkfilpkgeaaDoorW.PrintMore
open Go.Proofs.YtpalgkfilpkgeaaDoor

def credenzaref2_NameOk.f (a0 : ByteArray) : Option Bool := some (Plain.ok a0)
theorem credenzaref2_NameOk.calls (a0 : ByteArray) (r : Bool) (w : World) (h : credenzaref2_NameOk.f a0 = some r) :
    Calls Tryd.prog 21 #[.string a0] w fun e w' => e = .returned (.bool r) ∧ Drawn0 w w' := by
  obtain rfl := Option.some.inj h
  obtain ⟨k, hk⟩ := (Ref.nameOk_ev a0).rounds
  exact HRef.credenzaref2_NameOk.calls k a0 _ w hk
def credenzaref2_Split.f (a0 : ByteArray) : Option (List ByteArray × Bool) := some (Ref.splitR a0)
theorem credenzaref2_Split.calls (a0 : ByteArray) (r1 : List ByteArray) (r2 : Bool) (w : World) (h : credenzaref2_Split.f a0 = some (r1, r2)) :
    Calls Tryd.prog 13 #[.string a0] w fun e w' => ∃ v0_ : Value, e = .returned (.tuple #[v0_, .bool r2]) ∧ Kd.R Kd.string 9 w' w.heap.size (fun _ => True) v0_ r1 ∧ Below w.heap.size w w' := by
  obtain ⟨k, hk⟩ := (Ref.split_evR a0).rounds
  exact HRef.credenzaref2_Split.calls k a0 r1 r2 w (hk.trans h)
def credenzaref2_Join.f (l0 : List ByteArray) : Option (ByteArray × Bool) := some (Ref.joinR l0)
theorem credenzaref2_Join.calls (A0 : Option Addr) (c0 : Nat) (l0 : List ByteArray) (r1 : ByteArray) (r2 : Bool) (w : World) (hr0 : Kd.C Kd.string w A0 l0.length l0) (hc0 : l0.length ≤ c0) (h : credenzaref2_Join.f l0 = some (r1, r2)) :
    Calls Tryd.prog 15 #[.slice A0 l0.length c0] w fun e w' => e = .returned (.tuple #[.string r1, .bool r2]) ∧ Drawn0 w w' := by
  obtain ⟨k, hk⟩ := (Ref.join_evR l0).rounds
  exact HRef.credenzaref2_Join.calls k A0 c0 l0 r1 r2 w hr0 hc0 (hk.trans h)
def credenzaref2_SameTexts.f (l0 : List ByteArray) (l1 : List ByteArray) : Option Bool := some (decide (l0 = l1))
theorem credenzaref2_SameTexts.calls (A0 : Option Addr) (c0 : Nat) (l0 : List ByteArray) (A1 : Option Addr) (c1 : Nat) (l1 : List ByteArray) (r : Bool) (w : World) (hr0 : Kd.C Kd.string w A0 l0.length l0) (hc0 : l0.length ≤ c0) (hr1 : Kd.C Kd.string w A1 l1.length l1) (hc1 : l1.length ≤ c1) (h : credenzaref2_SameTexts.f l0 l1 = some r) :
    Calls Tryd.prog 14 #[.slice A0 l0.length c0, .slice A1 l1.length c1] w fun e w' => e = .returned (.bool r) ∧ Drawn0 w w' := by
  obtain ⟨k, hk⟩ := (Ref.same_ev l0 l1 hr0.2.1).rounds
  exact HRef.credenzaref2_SameTexts.calls k A0 c0 l0 A1 c1 l1 r w hr0 hc0 hr1 hc1 (hk.trans h)
def name_Parent.f (a0 : ByteArray) : Option (ByteArray × ByteArray × Bool) := some (Ref.parentR a0)
theorem name_Parent.calls (a0 : ByteArray) (r1 : ByteArray) (r2 : ByteArray) (r3 : Bool) (w : World) (h : name_Parent.f a0 = some (r1, r2, r3)) :
    Calls Tryd.prog 17 #[.string a0] w fun e w' => e = .returned (.tuple #[.string r1, .string r2, .bool r3]) ∧ Below w.heap.size w w' :=
  HRef.name_Parent.calls a0 r1 r2 r3 w ((Ref.parent_eq a0).trans h)
def credenzaref2_Parent.f (a0 : ByteArray) : Option (ByteArray × ByteArray × Bool) := some (Ref.parentR a0)
theorem credenzaref2_Parent.calls (a0 : ByteArray) (r1 : ByteArray) (r2 : ByteArray) (r3 : Bool) (w : World) (h : credenzaref2_Parent.f a0 = some (r1, r2, r3)) :
    Calls Tryd.prog 20 #[.string a0] w fun e w' => e = .returned (.tuple #[.string r1, .string r2, .bool r3]) ∧ Below w.heap.size w w' := by
  obtain ⟨k, hk⟩ := (Ref.parent_ev a0).rounds
  exact HRef.credenzaref2_Parent.calls k a0 r1 r2 r3 w (hk.trans h)
def name_Within.f (a0 : ByteArray) (a1 : ByteArray) : Option Bool := some (Ref.withinR a0 a1)
theorem name_Within.calls (a0 : ByteArray) (a1 : ByteArray) (r : Bool) (w : World) (h : name_Within.f a0 a1 = some r) :
    Calls Tryd.prog 19 #[.string a0, .string a1] w fun e w' => e = .returned (.bool r) ∧ Below w.heap.size w w' := by
  obtain ⟨k, hk⟩ := (Ref.within_ev a0 a1).rounds
  exact HRef.name_Within.calls k a0 a1 r w (hk.trans h)
def credenzaref2_Within.f (a0 : ByteArray) (a1 : ByteArray) : Option Bool := some (Ref.withinR a0 a1)
theorem credenzaref2_Within.calls (a0 : ByteArray) (a1 : ByteArray) (r : Bool) (w : World) (h : credenzaref2_Within.f a0 a1 = some r) :
    Calls Tryd.prog 22 #[.string a0, .string a1] w fun e w' => e = .returned (.bool r) ∧ Below w.heap.size w w' := by
  obtain ⟨k, hk⟩ := (Ref.refWithin_ev a0 a1).rounds
  exact HRef.credenzaref2_Within.calls k a0 a1 r w (hk.trans h)
def credenzalaw9_awake.f : Option Bool := some true
theorem credenzalaw9_awake.calls (r : Bool) (w : World) (h : credenzalaw9_awake.f = some r) :
    Calls Tryd.prog 10 #[] w fun e w' => e = .returned (.bool r) ∧ Below w.heap.size w w' :=
  HRef.credenzalaw9_awake.calls r w (Ref.awake_eq.trans h)

end Go.Proofs.YtpalgkfilpkgeaaDoor.Given7
