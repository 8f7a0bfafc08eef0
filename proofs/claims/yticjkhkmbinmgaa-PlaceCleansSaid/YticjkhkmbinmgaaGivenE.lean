/- slices.Clip at rows of whole numbers, at this translation. No condition but that the row is in memory. -/
import Derived.Test.YticjkhkmbinmgaaGivenB
namespace Go.Proofs.Yticjkhkmbinmgaa.GivenE
set_option linter.unusedSimpArgs false
open Go.RowKit Go.Proofs.YticjkhkmbinmgaaW.PrintWords Go.Proofs.YticjkhkmbinmgaaW.PrintLast Go.Proofs.YticjkhkmbinmgaaW.PrintMore

def slices_ClipI.f (l0 : List Int) : Option (List Int) := some l0
theorem slices_ClipI.calls (P0_ : Nat → Prop) (A0 : Option Addr) (c0 : Nat) (l0 : List Int) (r : List Int) (w : World) (hs0 : Kd.V (Kd.int .i64) 3 w w.heap.size (fun k_ => P0_ k_) (.slice A0 l0.length c0) l0) (h : slices_ClipI.f l0 = some r) :
    Calls Try.prog 29 #[.slice A0 l0.length c0] w fun e w' => ∃ v0_ : Value, e = .returned (v0_) ∧ Kd.V (Kd.int .i64) 3 w' w.heap.size (fun k_ => (P0_ k_ ∨ w.heap.size ≤ k_)) v0_ r ∧ Below w.heap.size w w' := by
  obtain rfl := Option.some.inj h
  have hV := Kd.V_at hs0
  have hc := hV.2.1
  have hF := hV.2.2
  have key : Kd.V (Kd.int .i64) 3 w w.heap.size (fun k_ => (P0_ k_ ∨ w.heap.size ≤ k_)) (.slice A0 l0.length l0.length) l0 := Kd.V_mk (Nat.le_refl _) (Kd.F_mono hF (fun _ hk => .inl hk))
  clear hs0 hF hV
  generalize l0.length = n at hc key ⊢
  go_enter Try.func29, Try.ntmps29
  go_wp2
  go_ret
  exact ⟨_, rfl, key, Below.refl _ _⟩

end Go.Proofs.Yticjkhkmbinmgaa.GivenE
