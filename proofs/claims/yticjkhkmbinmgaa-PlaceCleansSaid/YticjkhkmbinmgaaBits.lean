/- Small facts on wrapped sums and masks, for the pure statements of the place laws. -/
import Derived.Test.YticjkhkmbinmgaaWMore
import Derived.Laws.BitsLemmas
namespace Go.Proofs.Yticjkhkmbinmgaa.Bits
open Go.RowKit Go.Proofs.YticjkhkmbinmgaaW.PrintMore

theorem w64 {x : Int} (h0 : -9223372036854775808 ≤ x) (h1 : x ≤ 9223372036854775807) : wrap64 x = x := by
  unfold wrap64; omega

theorem mask (n : Int) (j : Nat) (m : Int) (hj : j ≤ 62) (hm : (BitVec.ofInt 64 m).toNat = 2 ^ j - 1) : Go.bits .and .i64 n m = n % ((2 ^ j : Nat) : Int) := by
  have key : (BitVec.ofInt 64 n &&& BitVec.ofInt 64 m).toNat = (n % ((2 ^ 64 : Nat) : Int)).toNat % 2 ^ j := by
    rw [BitVec.toNat_and, BitVec.toNat_ofInt, hm, Nat.and_two_pow_sub_one_eq_mod]
  show IntKind.i64.wrap ((BitVec.ofInt 64 n &&& BitVec.ofInt 64 m).toNat : Nat) = n % ((2 ^ j : Nat) : Int)
  have hpos : 0 < 2 ^ j := Nat.two_pow_pos j
  have hle : 2 ^ j ≤ 2 ^ 62 := Nat.pow_le_pow_right (by decide) hj
  have hdvd : ((2 ^ j : Nat) : Int) ∣ ((2 ^ 64 : Nat) : Int) := by
    exact_mod_cast Nat.pow_dvd_pow 2 (by omega : j ≤ 64)
  rw [key, IntKind.wrap_i64]
  have h64 : ((2 ^ 64 : Nat) : Int) = 18446744073709551616 := by decide
  have hnn : 0 ≤ n % ((2 ^ 64 : Nat) : Int) := Int.emod_nonneg _ (by rw [h64]; decide)
  have e : (((n % ((2 ^ 64 : Nat) : Int)).toNat % 2 ^ j : Nat) : Int) = n % ((2 ^ j : Nat) : Int) := by
    rw [Int.natCast_emod, Int.toNat_of_nonneg hnn, Int.emod_emod_of_dvd _ hdvd]
  rw [e]
  have l0 : 0 ≤ n % ((2 ^ j : Nat) : Int) := Int.emod_nonneg _ (by omega)
  have l1 : n % ((2 ^ j : Nat) : Int) < ((2 ^ j : Nat) : Int) := Int.emod_lt_of_pos _ (by omega)
  have l2 : ((2 ^ j : Nat) : Int) ≤ 4611686018427387904 := by
    have : ((2 ^ 62 : Nat) : Int) = 4611686018427387904 := by decide
    omega
  omega

theorem and_ff (n : Int) : Go.bits .and .i64 n 255 = n % 256 := mask n 8 255 (by decide) (by decide)
theorem and_3f (n : Int) : Go.bits .and .i64 n 63 = n % 64 := mask n 6 63 (by decide) (by decide)
theorem and_3ff (n : Int) : Go.bits .and .i64 n 1023 = n % 1024 := mask n 10 1023 (by decide) (by decide)

end Go.Proofs.Yticjkhkmbinmgaa.Bits
