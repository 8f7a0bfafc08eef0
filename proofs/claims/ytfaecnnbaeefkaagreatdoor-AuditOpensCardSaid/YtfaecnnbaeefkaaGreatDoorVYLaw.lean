/- A part of the proof of AuditOpens: the program run by the evaluator. No condition. -/
import Derived.Test.YtfaecnnbaeefkaaGreatDoorVYInv
import Derived.Test.YtfaecnnbaeefkaaGreatDoorVYS0
import Derived.Test.YtfaecnnbaeefkaaGreatDoorVYS1
import Derived.Test.YtfaecnnbaeefkaaGreatDoorVYS2
import Derived.Test.YtfaecnnbaeefkaaGreatDoorVYS3
import Derived.Test.YtfaecnnbaeefkaaGreatDoorVYS4
import Derived.Test.YtfaecnnbaeefkaaGreatDoorVYS5
import Derived.Test.YtfaecnnbaeefkaaGreatDoorVYS6
import Derived.Test.YtfaecnnbaeefkaaGreatDoorVYS7
import Derived.Test.YtfaecnnbaeefkaaGreatDoorCards
import Derived.Test.YtfaecnnbaeefkaaGreatDoorTie
import Derived.WalkKit
import Derived.ProofKit
import Derived.OpenShut
import Derived.ShutString
import Derived.ChangeOld
import Derived.Below
import Derived.SizedLaws
import Derived.LaidMore
import Derived.Lay
import Derived.SevenTiedAt
import Derived.SliceStrings
import Derived.Stop.Joined
set_option linter.all false
namespace Go.Proofs.Aud
noncomputable section
open Go Go.VE Go.Proofs.YtfaecnnbaeefkaaGreatDoor Go.ChangeShapes Go.WideShapes Go.ChangeAt Go.RowKit
set_option maxRecDepth 100000
theorem isFin_ok {r : RR} (h : isFin r = true) : ∃ h', r = .fin .undef h' 0 := by
  cases r with
  | fin v h' n =>
    cases v <;> first
      | (have : n = 0 := beq_n h; subst this; exact ⟨_, rfl⟩)
      | cases h
  | _ => cases h
theorem allR_ok {f : Nat → RR} : ∀ (c i : Nat), allR f c i = true → ∀ j, i ≤ j → j < i + c → isFin (f j) = true
  | 0, i, _, j, h1, h2 => by omega
  | c + 1, i, h, j, h1, h2 => by
    have e : allR f (c + 1) i = br (isFin (f i)) (frc (i + 1) (allR f c)) false := rfl
    rw [e, frc_eq] at h
    obtain ⟨h3, h4⟩ := brb h
    by_cases hj : j = i
    · rw [hj]; exact h3
    · exact allR_ok c (i + 1) h4 j (by omega) (by omega)
theorem run512 (u v : Nat) (hv : v < 512) : isFin (runV u v) = true := by
  rcases Nat.lt_or_ge v 64 with h | h
  · exact allR_ok 64 0 (s0 u) v (by omega) (by omega)
  rcases Nat.lt_or_ge v 128 with h | h
  · exact allR_ok 64 64 (s1 u) v (by omega) (by omega)
  rcases Nat.lt_or_ge v 192 with h | h
  · exact allR_ok 64 128 (s2 u) v (by omega) (by omega)
  rcases Nat.lt_or_ge v 256 with h | h
  · exact allR_ok 64 192 (s3 u) v (by omega) (by omega)
  rcases Nat.lt_or_ge v 320 with h | h
  · exact allR_ok 64 256 (s4 u) v (by omega) (by omega)
  rcases Nat.lt_or_ge v 384 with h | h
  · exact allR_ok 64 320 (s5 u) v (by omega) (by omega)
  rcases Nat.lt_or_ge v 448 with h | h
  · exact allR_ok 64 384 (s6 u) v (by omega) (by omega)
  · exact allR_ok 64 448 (s7 u) v (by omega) (by omega)
theorem main (u : Nat) : ∃ h', (lv (cxT exM) 500).call 3 [.int 3 u] h0 10 chkT = .fin .undef h' 0 := by
  rw [call3, body]
  have hv : Nat.land u 511 < 512 := Nat.lt_succ_of_le (Nat.and_le_right (n := u) (m := 511))
  exact isFin_ok (run512 u _ hv)
theorem chkT_ok {v : AV} {h : H} {n : Nat} {h' : H} (e : chkT v h n = .fin .undef h' 0) : v = .bool true := by
  cases v <;> first
    | (rename_i b; cases b <;> first | rfl | cases e)
    | cases e
/-- The law's call: it answers true, and what lay there ahead lies there as it did. -/
theorem calls (a : Int) (ha : inK .i64 a) {W : World} (hs : W.ShapedOpen Tryz.prog) (hL : laidMetH Tryz.prog Rows.auditOpensRow.laid W) :
    Calls Tryz.prog 3 #[.int .i64 a] W fun e W' => e = .returned (.bool true) ∧ ∀ may, W.keptBut W' may := by
  obtain ⟨h', hr⟩ := main (Go.VE.encI .i64 a)
  have hi := inv0 hs hL
  have harg : relS (ρ0 W) [.int 3 (Go.VE.encI .i64 a)] [.int .i64 a] := ⟨_, [], rfl, by simp only [rel]; exact ⟨.i64, a, rfl, rfl, rfl, ha.1, ha.2⟩, rfl⟩
  rcases run_ok exM_ok 500 3 _ _ _ _ _ hr (by simp) with ⟨_, hc⟩ | hc
  · refine (hc (ρ0 W) W _ hi harg).mono fun e W' hp => ?_
    obtain ⟨rv, rfl, v, g, n, σ, p1, p2, p3⟩ := hp
    have := chkT_ok p1; subst this
    simp only [rel] at p3
    subst p3
    refine ⟨rfl, fun may => ⟨p2.io.1, p2.io.2, fun i hi' => ?_⟩⟩
    have hk : W'.heap[i]? = W.heap[i]? := p2.keep i hi' fun hl => by
      obtain ⟨b, o, x, l1, _, l3⟩ := hl
      have h' : (if b < 10 then some (b, 0) else none) = some (i, x) := l3
      split at h'
      · rename_i hb
        have : KG = 10 := rfl
        omega
      · cases h'
    rw [hk]
    split <;> simp_all
  · obtain ⟨rv, w', f4, _⟩ := hc (ρ0 W) W _ hi harg
    exfalso
    have f5 := (enters_of Tryz.func3 (by kernel_rfl) rfl : Enters Tryz.prog 3) #[.int .i64 a] W
    rw [f5] at f4
    cases f4
end
end Go.Proofs.Aud
