/-
  Chapters 3 to 5 told in lists: the sum, the MAC, a key of a key, the stream. No program in sight.
-/
import Derived.Test.YtgdphamdbpkjdaaDoorOctS
namespace Go.Hg
open Go.RowKit
set_option linter.unusedVariables false
def H0 : List (BitVec 32) := [0x6a09e667, 0xbb67ae85, 0x3c6ef372, 0xa54ff53a, 0x510e527f, 0x9b05688c, 0x1f83d9ab, 0x5be0cd19]
def K0 : List (BitVec 32) := [
  0x428a2f98, 0x71374491, 0xb5c0fbcf, 0xe9b5dba5, 0x3956c25b, 0x59f111f1, 0x923f82a4, 0xab1c5ed5,
  0xd807aa98, 0x12835b01, 0x243185be, 0x550c7dc3, 0x72be5d74, 0x80deb1fe, 0x9bdc06a7, 0xc19bf174,
  0xe49b69c1, 0xefbe4786, 0x0fc19dc6, 0x240ca1cc, 0x2de92c6f, 0x4a7484aa, 0x5cb0a9dc, 0x76f988da,
  0x983e5152, 0xa831c66d, 0xb00327c8, 0xbf597fc7, 0xc6e00bf3, 0xd5a79147, 0x06ca6351, 0x14292967,
  0x27b70a85, 0x2e1b2138, 0x4d2c6dfc, 0x53380d13, 0x650a7354, 0x766a0abb, 0x81c2c92e, 0x92722c85,
  0xa2bfe8a1, 0xa81a664b, 0xc24b8b70, 0xc76c51a3, 0xd192e819, 0xd6990624, 0xf40e3585, 0x106aa070,
  0x19a4c116, 0x1e376c08, 0x2748774c, 0x34b0bcb5, 0x391c0cb3, 0x4ed8aa4a, 0x5b9cca4f, 0x682e6ff3,
  0x748f82ee, 0x78a5636f, 0x84c87814, 0x8cc70208, 0x90befffa, 0xa4506ceb, 0xbef9a3f7, 0xc67178f2]
theorem H0_length : H0.length = 8 := rfl
theorem K0_length : K0.length = 64 := rfl
def sha (M : List (BitVec 8)) : List (BitVec 8) := shaOf K0 H0 M
theorem sha_length (M : List (BitVec 8)) : (sha M).length = 32 := shaOf_length K0 H0_length M
/-- A key that fills its block, xored. -/
def keyPad (key : List (BitVec 8)) : List (BitVec 8) := key ++ zs (64 - key.length)
def padX (key : List (BitVec 8)) (c : BitVec 8) : List (BitVec 8) := (keyPad key).map (· ^^^ c)
theorem keyPad_length {key : List (BitVec 8)} (h : key.length ≤ 64) : (keyPad key).length = 64 := by simp [keyPad, zs_length]; omega
theorem padX_length {key : List (BitVec 8)} (h : key.length ≤ 64) (c : BitVec 8) : (padX key c).length = 64 := by simp [padX, keyPad_length h]
def hmacOf (key M : List (BitVec 8)) : List (BitVec 8) := sha (padX key 0x5c ++ sha (padX key 0x36 ++ M))
theorem hmacOf_length (key M : List (BitVec 8)) : (hmacOf key M).length = 32 := sha_length _
/-- Parts, each with its size ahead. -/
def sized (parts : List (List (BitVec 8))) : List (BitVec 8) := parts.flatMap fun p => beN 4 p.length ++ p
def deriveOf (key : List (BitVec 8)) (parts : List (List (BitVec 8))) : List (BitVec 8) := hmacOf key (sized parts)
theorem deriveOf_length (key : List (BitVec 8)) (parts : List (List (BitVec 8))) : (deriveOf key parts).length = 32 := sha_length _
/-! ### The stream of chapter 5 -/
def le4 (b0 b1 b2 b3 : BitVec 8) : BitVec 32 := b0.setWidth 32 ||| b1.setWidth 32 <<< 8 ||| b2.setWidth 32 <<< 16 ||| b3.setWidth 32 <<< 24
def outL (x : BitVec 32) : List (BitVec 8) := [x.setWidth 8, (x >>> 8).setWidth 8, (x >>> 16).setWidth 8, (x >>> 24).setWidth 8]
/-- Numbers of bytes. -/
def wordsL (bs : List (BitVec 8)) : List (BitVec 32) := (List.range (bs.length / 4)).map fun i => le4 (gb bs (4 * i)) (gb bs (4 * i + 1)) (gb bs (4 * i + 2)) (gb bs (4 * i + 3))
theorem wordsL_length (bs : List (BitVec 8)) : (wordsL bs).length = bs.length / 4 := by simp [wordsL]
/-- Half of a quarter's mixing. -/
def halfQ (s : List (BitVec 32)) (a b c d r1 r2 : Nat) : List (BitVec 32) :=
  let s1 := s.set a (gw s a + gw s b)
  let s2 := s1.set d (rl (gw s1 d ^^^ gw s1 a) r1)
  let s3 := s2.set c (gw s2 c + gw s2 d)
  s3.set b (rl (gw s3 b ^^^ gw s3 c) r2)
def quarterQ (s : List (BitVec 32)) (a b c d : Nat) : List (BitVec 32) := halfQ (halfQ s a b c d 16 12) a b c d 8 7
def quartersL : List (Nat × Nat × Nat × Nat) := [(0, 4, 8, 12), (1, 5, 9, 13), (2, 6, 10, 14), (3, 7, 11, 15), (0, 5, 10, 15), (1, 6, 11, 12), (2, 7, 8, 13), (3, 4, 9, 14)]
def doubleR (s : List (BitVec 32)) : List (BitVec 32) := quartersL.foldl (fun s q => quarterQ s q.1 q.2.1 q.2.2.1 q.2.2.2) s
def roundsR (s : List (BitVec 32)) : Nat → List (BitVec 32)
  | 0 => s
  | n + 1 => doubleR (roundsR s n)
theorem halfQ_length (s : List (BitVec 32)) (a b c d r1 r2 : Nat) : (halfQ s a b c d r1 r2).length = s.length := by simp [halfQ]
theorem quarterQ_length (s : List (BitVec 32)) (a b c d : Nat) : (quarterQ s a b c d).length = s.length := by simp [quarterQ, halfQ_length]
theorem foldQ_length : ∀ (l : List (Nat × Nat × Nat × Nat)) (s : List (BitVec 32)), (l.foldl (fun s q => quarterQ s q.1 q.2.1 q.2.2.1 q.2.2.2) s).length = s.length
  | [], s => rfl
  | q :: l, s => by rw [List.foldl_cons, foldQ_length l, quarterQ_length]
theorem doubleR_length (s : List (BitVec 32)) : (doubleR s).length = s.length := foldQ_length _ _
theorem roundsR_length (s : List (BitVec 32)) : ∀ n, (roundsR s n).length = s.length
  | 0 => rfl
  | n + 1 => by rw [roundsR, doubleR_length, roundsR_length s n]
def sigma : List (BitVec 32) := [0x61707865, 0x3320646e, 0x79622d32, 0x6b206574]
def firstS (key : List (BitVec 8)) (counter : BitVec 32) (nonce : List (BitVec 8)) : List (BitVec 32) := sigma ++ wordsL key ++ [counter] ++ wordsL nonce
theorem firstS_length {key nonce : List (BitVec 8)} (hk : key.length = 32) (hn : nonce.length = 12) (c : BitVec 32) : (firstS key c nonce).length = 16 := by simp [firstS, sigma, wordsL_length, hk, hn]
def blockOf (key : List (BitVec 8)) (counter : BitVec 32) (nonce : List (BitVec 8)) : List (BitVec 8) :=
  (List.zipWith (· + ·) (roundsR (firstS key counter nonce) 10) (firstS key counter nonce)).flatMap outL
theorem flat_outL_length : ∀ l : List (BitVec 32), (l.flatMap outL).length = 4 * l.length
  | [] => rfl
  | x :: l => by rw [List.flatMap_cons, List.length_append, flat_outL_length l, List.length_cons]; simp [outL]; omega
theorem flat_out4_length : ∀ l : List (BitVec 32), (l.flatMap out4).length = 4 * l.length
  | [] => rfl
  | x :: l => by rw [List.flatMap_cons, List.length_append, flat_out4_length l, List.length_cons]; simp [out4]; omega
theorem blockOf_length {key nonce : List (BitVec 8)} (hk : key.length = 32) (hn : nonce.length = 12) (c : BitVec 32) : (blockOf key c nonce).length = 64 := by
  rw [blockOf, flat_outL_length, List.length_zipWith, roundsR_length, firstS_length hk hn]
  rfl
/-- So many blocks. -/
def blocksOf (key nonce : List (BitVec 8)) : Nat → List (BitVec 8)
  | 0 => []
  | n + 1 => blocksOf key nonce n ++ blockOf key (BitVec.ofNat 32 n) nonce
theorem blocksOf_length {key nonce : List (BitVec 8)} (hk : key.length = 32) (hn : nonce.length = 12) : ∀ n, (blocksOf key nonce n).length = 64 * n
  | 0 => rfl
  | n + 1 => by rw [blocksOf, List.length_append, blocksOf_length hk hn n, blockOf_length hk hn]; omega
def streamOf (key nonce : List (BitVec 8)) (n : Nat) : List (BitVec 8) := (blocksOf key nonce ((n + 63) / 64)).take n
theorem streamOf_length {key nonce : List (BitVec 8)} (hk : key.length = 32) (hn : nonce.length = 12) (n : Nat) : (streamOf key nonce n).length = n := by
  rw [streamOf, List.length_take, blocksOf_length hk hn]
  omega
end Go.Hg
