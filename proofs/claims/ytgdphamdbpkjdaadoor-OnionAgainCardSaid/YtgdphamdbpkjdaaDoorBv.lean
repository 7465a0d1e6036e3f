/-
  Numbers as bit vectors: what each operation of the model comes to. No program in sight.
-/
import Derived.Test.YtgdphamdbpkjdaaDoorSees
import Derived.Test.YtgdphamdbpkjdaaDoorNumU
namespace Go.Hg
open Go.RowKit
set_option linter.unusedVariables false
/-- A bit vector as the number that it is. -/
def iv {n : Nat} (x : BitVec n) : Int := (x.toNat : Int)
theorem iv_nonneg {n : Nat} (x : BitVec n) : 0 ≤ iv x := by unfold iv; omega
theorem iv_lt {n : Nat} (x : BitVec n) : iv x < ((2 ^ n : Nat) : Int) := by unfold iv; have := x.isLt; omega
theorem iv_inj {n : Nat} {x y : BitVec n} : iv x = iv y ↔ x = y := by unfold iv; rw [Int.natCast_inj, BitVec.toNat_inj]
theorem iv8_le (x : BitVec 8) : iv x ≤ 255 := by have := iv_lt x; omega
theorem iv16_le (x : BitVec 16) : iv x ≤ 65535 := by have := iv_lt x; omega
theorem iv32_le (x : BitVec 32) : iv x ≤ 4294967295 := by have := iv_lt x; omega
theorem iv64_le (x : BitVec 64) : iv x ≤ 18446744073709551615 := by have := iv_lt x; omega
theorem iv_ofInt {n : Nat} {z : Int} (h0 : 0 ≤ z) (h1 : z < ((2 ^ n : Nat) : Int)) : iv (BitVec.ofInt n z) = z := by
  unfold iv
  rw [BitVec.toNat_ofInt, Int.emod_eq_of_lt h0 h1]
  omega
theorem ofInt_iv {n : Nat} (x : BitVec n) : BitVec.ofInt n (iv x) = x := by
  unfold iv
  rw [BitVec.ofInt_natCast, BitVec.ofNat_toNat, BitVec.setWidth_eq]
theorem wrap8 (z : Int) : IntKind.u8.wrap z = z % 256 := by simp [IntKind.wrap, IntKind.bits, IntKind.signed]
theorem wrap32 (z : Int) : IntKind.u32.wrap z = z % 4294967296 := by simp [IntKind.wrap, IntKind.bits, IntKind.signed]
theorem wrap64 (z : Int) : IntKind.u64.wrap z = z % 18446744073709551616 := by simp [IntKind.wrap, IntKind.bits, IntKind.signed]
theorem iv_add32 (a b : BitVec 32) : IntKind.u32.wrap (iv a + iv b) = iv (a + b) := by
  rw [wrap32]
  unfold iv
  rw [BitVec.toNat_add]
  omega
theorem iv_add64 (a b : BitVec 64) : IntKind.u64.wrap (iv a + iv b) = iv (a + b) := by
  rw [wrap64]
  unfold iv
  rw [BitVec.toNat_add]
  omega
theorem bits_iv (op : BinOp) (k : IntKind) {n : Nat} (hk : k.bits = n) (a b : BitVec n) : BitVec.ofInt k.bits (iv a) = (a.cast hk.symm) := by
  subst hk
  rw [ofInt_iv]
  rfl
theorem iv_xor8 (a b : BitVec 8) : bits .xor .u8 (iv a) (iv b) = iv (a ^^^ b) := by
  have e : bits .xor .u8 (iv a) (iv b) = IntKind.u8.wrap (iv (BitVec.ofInt 8 (iv a) ^^^ BitVec.ofInt 8 (iv b))) := rfl
  rw [e, ofInt_iv, ofInt_iv, wrap8]
  have := iv8_le (a ^^^ b)
  have := iv_nonneg (a ^^^ b)
  omega
theorem iv_or8 (a b : BitVec 8) : bits .or .u8 (iv a) (iv b) = iv (a ||| b) := by
  have e : bits .or .u8 (iv a) (iv b) = IntKind.u8.wrap (iv (BitVec.ofInt 8 (iv a) ||| BitVec.ofInt 8 (iv b))) := rfl
  rw [e, ofInt_iv, ofInt_iv, wrap8]
  have := iv8_le (a ||| b)
  have := iv_nonneg (a ||| b)
  omega
theorem iv_xor32 (a b : BitVec 32) : bits .xor .u32 (iv a) (iv b) = iv (a ^^^ b) := by
  have e : bits .xor .u32 (iv a) (iv b) = IntKind.u32.wrap (iv (BitVec.ofInt 32 (iv a) ^^^ BitVec.ofInt 32 (iv b))) := rfl
  rw [e, ofInt_iv, ofInt_iv, wrap32]
  have := iv32_le (a ^^^ b)
  have := iv_nonneg (a ^^^ b)
  omega
theorem iv_or32 (a b : BitVec 32) : bits .or .u32 (iv a) (iv b) = iv (a ||| b) := by
  have e : bits .or .u32 (iv a) (iv b) = IntKind.u32.wrap (iv (BitVec.ofInt 32 (iv a) ||| BitVec.ofInt 32 (iv b))) := rfl
  rw [e, ofInt_iv, ofInt_iv, wrap32]
  have := iv32_le (a ||| b)
  have := iv_nonneg (a ||| b)
  omega
theorem iv_and32 (a b : BitVec 32) : bits .and .u32 (iv a) (iv b) = iv (a &&& b) := by
  have e : bits .and .u32 (iv a) (iv b) = IntKind.u32.wrap (iv (BitVec.ofInt 32 (iv a) &&& BitVec.ofInt 32 (iv b))) := rfl
  rw [e, ofInt_iv, ofInt_iv, wrap32]
  have := iv32_le (a &&& b)
  have := iv_nonneg (a &&& b)
  omega
theorem iv_or64 (a b : BitVec 64) : bits .or .u64 (iv a) (iv b) = iv (a ||| b) := by
  have e : bits .or .u64 (iv a) (iv b) = IntKind.u64.wrap (iv (BitVec.ofInt 64 (iv a) ||| BitVec.ofInt 64 (iv b))) := rfl
  rw [e, ofInt_iv, ofInt_iv, wrap64]
  have := iv64_le (a ||| b)
  have := iv_nonneg (a ||| b)
  omega
theorem iv_not32 (a : BitVec 32) : bits .xor .u32 4294967295 (iv a) = iv (~~~a) := by
  have e : (4294967295 : Int) = iv (BitVec.allOnes 32) := by decide
  rw [e, iv_xor32, BitVec.allOnes_xor]
theorem iv_shr {n : Nat} (a : BitVec n) (k : Nat) : iv a / 2 ^ k = iv (a >>> k) := by
  unfold iv
  rw [BitVec.toNat_ushiftRight, Nat.shiftRight_eq_div_pow, Int.natCast_ediv]
  simp
theorem iv_shl32 (a : BitVec 32) (k : Nat) : IntKind.u32.wrap (iv a * 2 ^ k) = iv (a <<< k) := by
  rw [wrap32]
  unfold iv
  rw [BitVec.toNat_shiftLeft, Nat.shiftLeft_eq, Int.natCast_emod]
  simp
theorem iv_shl64 (a : BitVec 64) (k : Nat) : IntKind.u64.wrap (iv a * 2 ^ k) = iv (a <<< k) := by
  rw [wrap64]
  unfold iv
  rw [BitVec.toNat_shiftLeft, Nat.shiftLeft_eq, Int.natCast_emod]
  simp
theorem iv_8_32 (a : BitVec 8) : IntKind.u32.wrap (iv a) = iv (a.setWidth 32) := by
  have := iv8_le a
  have := iv_nonneg a
  rw [wrap32]
  unfold iv at *
  rw [BitVec.toNat_setWidth]
  omega
theorem iv_8_64 (a : BitVec 8) : IntKind.u64.wrap (iv a) = iv (a.setWidth 64) := by
  have := iv8_le a
  have := iv_nonneg a
  rw [wrap64]
  unfold iv at *
  rw [BitVec.toNat_setWidth]
  omega
theorem iv_32_8 (a : BitVec 32) : IntKind.u8.wrap (iv a) = iv (a.setWidth 8) := by
  rw [wrap8]
  unfold iv
  rw [BitVec.toNat_setWidth]
  omega
theorem iv_64_8 (a : BitVec 64) : IntKind.u8.wrap (iv a) = iv (a.setWidth 8) := by
  rw [wrap8]
  unfold iv
  rw [BitVec.toNat_setWidth]
  omega
/-- Turned to the left, and to the right. -/
def rl (x : BitVec 32) (s : Nat) : BitVec 32 := x <<< s ||| x >>> (32 - s)
def rr (x : BitVec 32) (s : Nat) : BitVec 32 := rl x (32 - s)
/-- A byte's cell; a number's of thirty-two bits. -/
def c8 (b : BitVec 8) : List Value := [.int .u8 (iv b)]
def c32 (b : BitVec 32) : List Value := [.int .u32 (iv b)]
/-- Rows of bytes, of numbers, as the cells of a block. -/
def v8 (bs : List (BitVec 8)) : List Value := bs.map fun b => .int .u8 (iv b)
def v32 (ws : List (BitVec 32)) : List Value := ws.map fun w => .int .u32 (iv w)
theorem v8_length (bs : List (BitVec 8)) : (v8 bs).length = bs.length := by simp [v8]
theorem v32_length (ws : List (BitVec 32)) : (v32 ws).length = ws.length := by simp [v32]
theorem v8_one (bs : List (BitVec 8)) : ∀ u ∈ v8 bs, u.oneCell' = true := fun u hu => by
  obtain ⟨b, _, rfl⟩ := List.mem_map.1 hu
  rfl
theorem v32_one (bs : List (BitVec 32)) : ∀ u ∈ v32 bs, u.oneCell' = true := fun u hu => by
  obtain ⟨b, _, rfl⟩ := List.mem_map.1 hu
  rfl
theorem cl_c8 (bs : List (BitVec 8)) : cl c8 bs = v8 bs := by
  induction bs with
  | nil => rfl
  | cons b bs ih =>
    show c8 b ++ cl c8 bs = _
    rw [ih]
    rfl
end Go.Hg
