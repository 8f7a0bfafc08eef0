/- strings.IndexByte at this translation, in the form that the printed texts take: it answers the first place of a byte, the world is as it was. No condition. -/
import Derived.Test.YtpalgkfilpkgeaaDoorLays
import Derived.Test.YtpalgkfilpkgeaaDoorWMore
namespace Go.Proofs.YtpalgkfilpkgeaaDoor.Given1
open Go.RowKit Go.Proofs.YtpalgkfilpkgeaaDoorW.PrintWords Go.Proofs.YtpalgkfilpkgeaaDoorW.PrintLast

def strings_IndexByte.f (a0 : ByteArray) (a1 : Int) : Option Int := some (Lib.indexByte a0.data.toList a1.toNat.toUInt8)
theorem strings_IndexByte.calls (a0 : ByteArray) (a1 : Int) (r : Int) (w : World) (h : strings_IndexByte.f a0 a1 = some r) :
    Calls Tryd.prog 39 #[.string a0, .int .u8 a1] w fun e w' => e = .returned (.int .i64 r) ∧ Drawn0 w w' := by
  obtain rfl := Option.some.inj h
  exact (Any.strings_IndexByte Tryd.lays137 a0 a1 w).mono fun e w' ⟨he, hw⟩ => ⟨he, by rw [hw]; exact Drawn0.refl w⟩

end Go.Proofs.YtpalgkfilpkgeaaDoor.Given1
