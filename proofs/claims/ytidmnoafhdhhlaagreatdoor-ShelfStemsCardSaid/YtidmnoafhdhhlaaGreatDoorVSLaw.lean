/- A part of the proof of ShelfStems: the program run by the evaluator. No condition. -/
import Derived.Test.YtidmnoafhdhhlaaGreatDoorVSInv
import Derived.Test.YtidmnoafhdhhlaaGreatDoorVSOk
import Derived.Test.YtidmnoafhdhhlaaGreatDoorVSS0
import Derived.Test.YtidmnoafhdhhlaaGreatDoorVSS1
import Derived.Test.YtidmnoafhdhhlaaGreatDoorVSS2
import Derived.Test.YtidmnoafhdhhlaaGreatDoorVSS3
import Derived.Test.YtidmnoafhdhhlaaGreatDoorVSS4
import Derived.Test.YtidmnoafhdhhlaaGreatDoorVSS5
import Derived.Test.YtidmnoafhdhhlaaGreatDoorVSS6
import Derived.Test.YtidmnoafhdhhlaaGreatDoorVSS7
import Derived.Test.YtidmnoafhdhhlaaGreatDoorCards
import Derived.WalkKit
import Derived.ProofKit
import Derived.OpenShut
import Derived.ShutString
import Derived.ChangeOld
import Derived.Below
import Derived.SizedLaws
import Derived.LaidMore
import Derived.Lay
import Derived.SevenTiedAt
import Derived.SliceStrings
import Derived.Stop.Joined
set_option linter.all false
namespace Go.Proofs.Aud
noncomputable section
open Go Go.VE Go.Proofs.YtidmnoafhdhhlaaGreatDoor Go.ChangeShapes Go.WideShapes Go.ChangeAt Go.RowKit
set_option maxRecDepth 100000
theorem exM_ok : ExOk exM := exT_ok
theorem isFin_ok {r : RR} (h : isFin r = true) : ∃ h', r = .fin .undef h' 0 := by
  cases r with
  | fin v h' n =>
    cases v <;> first
      | (have : n = 0 := zak h; subst this; exact ⟨_, rfl⟩)
      | cases h
  | _ => cases h
theorem allR_ok {f : Nat → RR} : ∀ (c i : Nat), allR f c i = true → ∀ j, i ≤ j → j < i + c → isFin (f j) = true
  | 0, i, _, j, h1, h2 => by omega
  | c + 1, i, h, j, h1, h2 => by
    have e : allR f (c + 1) i = br (isFin (f i)) (frc (i + 1) (allR f c)) false := rfl
    rw [e, zam] at h
    obtain ⟨h3, h4⟩ := brb h
    by_cases hj : j = i
    · rw [hj]; exact h3
    · exact allR_ok c (i + 1) h4 j (by omega) (by omega)
theorem rel_ukn0 {ρ : Mp} (m : Nat) {a : Int} (ha : inK .i64 a) : rel ρ (.ukn 3 m (Nat.land (Go.VE.encI .i64 a) m)) (.int .i64 a) := by simp only [rel]; exact ⟨.i64, a, rfl, rfl, rfl, ha.1, ha.2⟩
theorem land_lt (u m : Nat) : Nat.land u m < m + 1 := Nat.lt_succ_of_le (Nat.and_le_right (n := u) (m := m))
theorem lo (ka : Nat) (hk : ka < 16) (kb : Nat) (hb : kb < 2) : isFin (runA [.ukn 3 15 ka, .ukn 3 1 kb]) = true := by
  have hc : kb = 0 ∨ kb = 1 := by omega
  have hd : ka = 0 ∨ ka = 1 ∨ ka = 2 ∨ ka = 3 ∨ ka = 4 ∨ ka = 5 ∨ ka = 6 ∨ ka = 7 ∨ ka = 8 ∨ ka = 9 ∨ ka = 10 ∨ ka = 11 ∨ ka = 12 ∨ ka = 13 ∨ ka = 14 ∨ ka = 15 := by omega
  rcases hc with rfl | rfl <;> rcases hd with rfl | rfl | rfl | rfl | rfl | rfl | rfl | rfl | rfl | rfl | rfl | rfl | rfl | rfl | rfl | rfl
  · exact allR_ok 1 0 s0 0 (by omega) (by omega)
  · exact allR_ok 1 1 s1 1 (by omega) (by omega)
  · exact allR_ok 1 2 s2 2 (by omega) (by omega)
  · exact allR_ok 1 3 s3 3 (by omega) (by omega)
  · exact allR_ok 1 4 s4 4 (by omega) (by omega)
  · exact allR_ok 1 5 s5 5 (by omega) (by omega)
  · exact allR_ok 1 6 s6 6 (by omega) (by omega)
  · exact allR_ok 1 7 s7 7 (by omega) (by omega)
  · exact allR_ok 1 8 s8 8 (by omega) (by omega)
  · exact allR_ok 1 9 s9 9 (by omega) (by omega)
  · exact allR_ok 1 10 s10 10 (by omega) (by omega)
  · exact allR_ok 1 11 s11 11 (by omega) (by omega)
  · exact allR_ok 1 12 s12 12 (by omega) (by omega)
  · exact allR_ok 1 13 s13 13 (by omega) (by omega)
  · exact allR_ok 1 14 s14 14 (by omega) (by omega)
  · exact allR_ok 1 15 s15 15 (by omega) (by omega)
  · exact allR_ok 1 0 s16 0 (by omega) (by omega)
  · exact allR_ok 1 1 s17 1 (by omega) (by omega)
  · exact allR_ok 1 2 s18 2 (by omega) (by omega)
  · exact allR_ok 1 3 s19 3 (by omega) (by omega)
  · exact allR_ok 1 4 s20 4 (by omega) (by omega)
  · exact allR_ok 1 5 s21 5 (by omega) (by omega)
  · exact allR_ok 1 6 s22 6 (by omega) (by omega)
  · exact allR_ok 1 7 s23 7 (by omega) (by omega)
  · exact allR_ok 1 8 s24 8 (by omega) (by omega)
  · exact allR_ok 1 9 s25 9 (by omega) (by omega)
  · exact allR_ok 1 10 s26 10 (by omega) (by omega)
  · exact allR_ok 1 11 s27 11 (by omega) (by omega)
  · exact allR_ok 1 12 s28 12 (by omega) (by omega)
  · exact allR_ok 1 13 s29 13 (by omega) (by omega)
  · exact allR_ok 1 14 s30 14 (by omega) (by omega)
  · exact allR_ok 1 15 s31 15 (by omega) (by omega)
theorem mainR (ρ : Mp) (a0 a1 : Int) (hh0 : inK .i64 a0) (hh1 : inK .i64 a1) : ∃ l, relS ρ l [.int .i64 a0, .int .i64 a1] ∧ ∃ h', (lv (cxT exM) 500).call 5 l h0 10 chkT = .fin .undef h' 0 :=
  ⟨[.ukn 3 15 _, .ukn 3 1 _], ⟨_, _, rfl, rel_ukn0 15 hh0, _, _, rfl, rel_ukn0 1 hh1, rfl⟩, isFin_ok (lo _ (land_lt _ 15) _ (land_lt _ 1))⟩
theorem chkT_ok {v : AV} {h : H} {n : Nat} {h' : H} (e : chkT v h n = .fin .undef h' 0) : v = .bool true := by
  cases v <;> first
    | (rename_i b; cases b <;> first | rfl | cases e)
    | cases e
theorem rel_ukn {ρ : Mp} (m : Nat) {a : Int} (ha : inK .i64 a) : rel ρ (.ukn 3 m (Nat.land (Go.VE.encI .i64 a) m)) (.int .i64 a) := by simp only [rel]; exact ⟨.i64, a, rfl, rfl, rfl, ha.1, ha.2⟩
theorem calls (a0 : Int) (a1 : Int) (hh0 : inK .i64 a0) (hh1 : inK .i64 a1) {W : World} (hs : W.ShapedOpen Tryz.prog) (hL : laidMetH Tryz.prog Rows.shelfStemsRow.laid W) :
    Calls Tryz.prog 5 #[.int .i64 a0, .int .i64 a1] W fun e W' => e = .returned (.bool true) ∧ ∀ may, W.keptBut W' may := by
  obtain ⟨l, harg, h', hr⟩ := mainR (ρ0 W) a0 a1 hh0 hh1
  have hi := inv0 hs hL
  rcases run_ok exM_ok 500 5 _ _ _ _ _ hr (by simp) with ⟨_, hc⟩ | hc
  · refine (hc (ρ0 W) W _ hi harg).mono fun e W' hp => ?_
    obtain ⟨rv, rfl, v, g, n, σ, p1, p2, p3⟩ := hp
    have := chkT_ok p1; subst this
    simp only [rel] at p3
    subst p3
    refine ⟨rfl, fun may => ⟨p2.io.1, p2.io.2, fun i hi' => ?_⟩⟩
    have hk : W'.heap[i]? = W.heap[i]? := p2.keep i hi' fun hl => by
      obtain ⟨b, o, x, l1, _, l3⟩ := hl
      have h' : (if b < 10 then some (b, 0) else none) = some (i, x) := l3
      split at h'
      · rename_i hb
        have : KG = 10 := rfl
        omega
      · cases h'
    rw [hk]
    split <;> simp_all
  · obtain ⟨rv, w', f4, _⟩ := hc (ρ0 W) W _ hi harg
    exfalso
    have f5 := (enters_of Tryz.func5 (by kernel_rfl) rfl : Enters Tryz.prog 5) #[.int .i64 a0, .int .i64 a1] W
    rw [f5] at f4
    cases f4
end
end Go.Proofs.Aud
