/-
  Small facts on unsigned numbers. No program in sight.
-/
import Derived.Test.YtgdphamdbpkjdaaDoorNum
namespace Go.Hg
open Go.RowKit
/-- The low bits of an unsigned number. -/
theorem bits_and_low_u (z : Int) (j : Nat) (hj : j ≤ 62) : bits .and .u64 z (2 ^ j - 1) = z % 2 ^ j := by
  have hp : (2 : Nat) ^ j ≤ 2 ^ 62 := Nat.pow_le_pow_right (by decide) hj
  have hpos : 0 < (2 : Nat) ^ j := Nat.two_pow_pos j
  have hc : ((2 : Int) ^ j - 1) = ((2 ^ j - 1 : Nat) : Int) := by
    rw [Int.natCast_sub hpos]; simp
  have hm : (2 ^ j - 1) % 2 ^ 64 = 2 ^ j - 1 := Nat.mod_eq_of_lt (by omega)
  have hcast : ((2 ^ j : Nat) : Int) = (2 : Int) ^ j := by simp
  have hm2 : (2 ^ j - 1) % 2 ^ IntKind.u64.bits = 2 ^ j - 1 := hm
  simp only [bits, hc, BitVec.ofInt_natCast, BitVec.toNat_and, BitVec.toNat_ofNat, BitVec.toNat_ofInt, hm2, Nat.and_two_pow_sub_one_eq_mod]
  have hb : ((2 ^ IntKind.u64.bits : Nat) : Int) = 18446744073709551616 := rfl
  rw [hb]
  have h1 : ((z % 18446744073709551616).toNat % 2 ^ j : Nat) < 2 ^ j := Nat.mod_lt _ hpos
  have h2 : (((z % 18446744073709551616).toNat % 2 ^ j : Nat) : Int) = z % 2 ^ j := by
    rw [Int.natCast_emod, hcast, Int.toNat_of_nonneg (Int.emod_nonneg _ (by decide))]
    exact Int.emod_emod_of_dvd z ⟨2 ^ (64 - j), by rw [← Int.pow_add, show j + (64 - j) = 64 from by omega]; rfl⟩
  rw [← h2, IntKind.wrap_u64]
  omega
theorem low16u (z : Int) : ∃ x : Int, bits .and .u64 z 65535 = x ∧ 0 ≤ x ∧ x ≤ 65535 := by
  have h := bits_and_low_u z 16 (by omega)
  exact ⟨z % 65536, h, by omega, by omega⟩
end Go.Hg
