/-
  Numbers as bytes, the great one first, and back. No program in sight.
-/
import Derived.Test.YtgdphamdbpkjdaaDoorShaS
namespace Go.Hg
open Go.RowKit
set_option linter.unusedVariables false
/-- A number as so many bytes. -/
def beN : Nat → Nat → List (BitVec 8)
  | 0, _ => []
  | k + 1, n => BitVec.ofNat 8 (n >>> (8 * k)) :: beN k n
/-- Bytes as a number. -/
def deF (a : Nat) (bs : List (BitVec 8)) : Nat := bs.foldl (fun a b => a * 256 + b.toNat) a
def deN (bs : List (BitVec 8)) : Nat := deF 0 bs
theorem beN_length : ∀ k n, (beN k n).length = k
  | 0, _ => rfl
  | k + 1, n => by simp [beN, beN_length k n]
theorem pow8 (k : Nat) : 2 ^ (8 * k) = 256 ^ k := by rw [Nat.pow_mul]
theorem deF_cons (a : Nat) (b : BitVec 8) (bs : List (BitVec 8)) : deF a (b :: bs) = deF (a * 256 + b.toNat) bs := rfl
theorem deF_eq : ∀ (bs : List (BitVec 8)) (a : Nat), deF a bs = a * 256 ^ bs.length + deN bs
  | [], a => by simp [deF, deN]
  | b :: bs, a => by
    unfold deN
    rw [deF_cons, deF_cons, deF_eq bs, deF_eq bs (0 * 256 + b.toNat), List.length_cons, Nat.pow_succ]
    have e : (a * 256 + b.toNat) * 256 ^ bs.length = a * (256 ^ bs.length * 256) + b.toNat * 256 ^ bs.length := by
      rw [Nat.add_mul, Nat.mul_assoc, Nat.mul_comm 256]
    rw [e]
    simp [deN, deF]
    omega
theorem deN_cons (b : BitVec 8) (bs : List (BitVec 8)) : deN (b :: bs) = b.toNat * 256 ^ bs.length + deN bs := by
  unfold deN
  rw [deF_cons, deF_eq]
  simp [deN]
theorem deN_lt : ∀ bs : List (BitVec 8), deN bs < 256 ^ bs.length
  | [] => by simp [deN, deF]
  | b :: bs => by
    rw [deN_cons, List.length_cons, Nat.pow_succ]
    have h1 := deN_lt bs
    have h2 := b.isLt
    have h3 : b.toNat * 256 ^ bs.length ≤ 255 * 256 ^ bs.length := Nat.mul_le_mul_right _ (by omega)
    omega
theorem deN_snoc (bs : List (BitVec 8)) (b : BitVec 8) : deN (bs ++ [b]) = deN bs * 256 + b.toNat := by
  unfold deN deF
  rw [List.foldl_append]
  rfl
theorem deN_beN : ∀ k n, deN (beN k n) = n % 256 ^ k
  | 0, n => by simp [beN, deN, deF, Nat.mod_one]
  | k + 1, n => by
    unfold beN
    rw [deN_cons, deN_beN k n, beN_length, BitVec.toNat_ofNat, Nat.shiftRight_eq_div_pow, pow8]
    have h := Nat.mod_mul (x := n) (a := 256 ^ k) (b := 256)
    have e : 256 ^ (k + 1) = 256 ^ k * 256 := Nat.pow_succ _ _
    rw [e, h, Nat.mul_comm (256 ^ k) (n / 256 ^ k % 256), Nat.add_comm]
theorem deN_beN_lt {k n : Nat} (h : n < 256 ^ k) : deN (beN k n) = n := by rw [deN_beN, Nat.mod_eq_of_lt h]
theorem beN_add (k a r : Nat) : beN k (a * 256 ^ k + r) = beN k r := by
  induction k generalizing a with
  | zero => rfl
  | succ k ih =>
    unfold beN
    congr 1
    · rw [Nat.shiftRight_eq_div_pow, Nat.shiftRight_eq_div_pow, pow8]
      have hp : 0 < 256 ^ k := Nat.pow_pos (by omega)
      have e : a * 256 ^ (k + 1) + r = r + 256 ^ k * (a * 256) := by
        rw [Nat.pow_succ, Nat.add_comm, Nat.mul_comm a, Nat.mul_assoc, Nat.mul_comm 256 a]
      rw [e, Nat.add_mul_div_left _ _ hp]
      apply BitVec.eq_of_toNat_eq
      simp only [BitVec.toNat_ofNat]
      omega
    · have e : a * 256 ^ (k + 1) + r = (a * 256) * 256 ^ k + r := by rw [Nat.pow_succ, Nat.mul_assoc, Nat.mul_comm 256]
      rw [e, ih]
theorem beN_deN : ∀ bs : List (BitVec 8), beN bs.length (deN bs) = bs
  | [] => rfl
  | b :: bs => by
    rw [List.length_cons, deN_cons]
    have hp : 0 < 256 ^ bs.length := Nat.pow_pos (by omega)
    unfold beN
    rw [beN_add, beN_deN bs]
    congr 1
    rw [Nat.shiftRight_eq_div_pow, pow8, Nat.add_comm, Nat.mul_comm, Nat.add_mul_div_left _ _ hp, Nat.div_eq_of_lt (deN_lt bs), Nat.zero_add]
    simp
theorem beN_inj {k a b : Nat} (ha : a < 256 ^ k) (hb : b < 256 ^ k) (h : beN k a = beN k b) : a = b := by
  rw [← deN_beN_lt ha, ← deN_beN_lt hb, h]
/-- Bytes of 0. -/
def zs (n : Nat) : List (BitVec 8) := List.replicate n 0
theorem zs_length (n : Nat) : (zs n).length = n := by simp [zs]
/-- Bytes of both. -/
def xorB (a b : List (BitVec 8)) : List (BitVec 8) := List.zipWith (· ^^^ ·) a b
theorem xorB_length (a b : List (BitVec 8)) : (xorB a b).length = min a.length b.length := by simp [xorB]
end Go.Hg
