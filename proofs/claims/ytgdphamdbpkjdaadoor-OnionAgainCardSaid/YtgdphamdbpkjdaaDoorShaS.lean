/-
  The sum of chapter 3, told in lists: a block's numbers, the steps, the blocks of a text. No program in sight.
-/
import Derived.Test.YtgdphamdbpkjdaaDoorBv
namespace Go.Hg
open Go.RowKit
set_option linter.unusedVariables false
def gb (bs : List (BitVec 8)) (i : Nat) : BitVec 8 := bs.getD i 0
def gw (ws : List (BitVec 32)) (i : Nat) : BitVec 32 := ws.getD i 0
theorem gb_get {bs : List (BitVec 8)} {i : Nat} (h : i < bs.length) : bs[i]? = some (gb bs i) := by simp [gb, List.getD, h]
theorem gw_get {ws : List (BitVec 32)} {i : Nat} (h : i < ws.length) : ws[i]? = some (gw ws i) := by simp [gw, List.getD, h]
theorem gw_of {ws : List (BitVec 32)} {i : Nat} {x : BitVec 32} (h : ws[i]? = some x) : gw ws i = x := by simp [gw, List.getD, h]
theorem gb_of {ws : List (BitVec 8)} {i : Nat} {x : BitVec 8} (h : ws[i]? = some x) : gb ws i = x := by simp [gb, List.getD, h]
theorem v8_get {bs : List (BitVec 8)} {i : Nat} (h : i < bs.length) : (v8 bs)[i]? = some (.int .u8 (iv (gb bs i))) := by
  unfold v8
  rw [List.getElem?_map, gb_get h]
  rfl
theorem v32_get {bs : List (BitVec 32)} {i : Nat} (h : i < bs.length) : (v32 bs)[i]? = some (.int .u32 (iv (gw bs i))) := by
  unfold v32
  rw [List.getElem?_map, gw_get h]
  rfl
theorem v32_set (ws : List (BitVec 32)) (i : Nat) (x : BitVec 32) : (v32 ws).set i (.int .u32 (iv x)) = v32 (ws.set i x) := by simp [v32, List.map_set]
theorem v8_set (ws : List (BitVec 8)) (i : Nat) (x : BitVec 8) : (v8 ws).set i (.int .u8 (iv x)) = v8 (ws.set i x) := by simp [v8, List.map_set]
/-- Four bytes as a number, the great one first. -/
def be4 (b0 b1 b2 b3 : BitVec 8) : BitVec 32 := b0.setWidth 32 <<< 24 ||| b1.setWidth 32 <<< 16 ||| b2.setWidth 32 <<< 8 ||| b3.setWidth 32
def wlow (x : BitVec 32) : BitVec 32 := rr x 7 ^^^ rr x 18 ^^^ x >>> 3
def whigh (y : BitVec 32) : BitVec 32 := rr y 17 ^^^ rr y 19 ^^^ y >>> 10
/-- The next number of a block. -/
def wnext (blk : List (BitVec 8)) (ws : List (BitVec 32)) (i : Nat) : BitVec 32 :=
  if i < 16 then be4 (gb blk (4 * i)) (gb blk (4 * i + 1)) (gb blk (4 * i + 2)) (gb blk (4 * i + 3))
  else whigh (gw ws (i - 2)) + gw ws (i - 7) + wlow (gw ws (i - 15)) + gw ws (i - 16)
def wsOf (blk : List (BitVec 8)) : Nat → List (BitVec 32)
  | 0 => []
  | i + 1 => wsOf blk i ++ [wnext blk (wsOf blk i) i]
theorem wsOf_length (blk : List (BitVec 8)) : ∀ i, (wsOf blk i).length = i
  | 0 => rfl
  | i + 1 => by simp [wsOf, wsOf_length blk i]
/-- With noughts for those that are not made yet. -/
def wsP (blk : List (BitVec 8)) (i : Nat) : List (BitVec 32) := wsOf blk i ++ List.replicate (64 - i) 0
theorem wsP_length (blk : List (BitVec 8)) {i : Nat} (h : i ≤ 64) : (wsP blk i).length = 64 := by simp [wsP, wsOf_length]; omega
theorem wsP_gw (blk : List (BitVec 8)) {i j : Nat} (h : j < i) : gw (wsP blk i) j = gw (wsOf blk i) j := by
  unfold gw wsP
  simp only [List.getD_eq_getElem?_getD]
  rw [List.getElem?_append_left (by rw [wsOf_length]; exact h)]
theorem wsP_succ (blk : List (BitVec 8)) {i : Nat} (h : i < 64) : (wsP blk i).set i (wnext blk (wsOf blk i) i) = wsP blk (i + 1) := by
  unfold wsP
  rw [List.set_append_right _ _ (by rw [wsOf_length]; omega), wsOf_length, Nat.sub_self, show 64 - i = (64 - (i + 1)) + 1 by omega, List.replicate_succ]
  simp [wsOf]
theorem wsP_full (blk : List (BitVec 8)) : wsP blk 64 = wsOf blk 64 := by simp [wsP]
/-- One step of the mixing: eight numbers, the step's own, the block's. -/
def chf (e f g : BitVec 32) : BitVec 32 := e &&& f ^^^ ~~~e &&& g
def majf (a b c : BitVec 32) : BitVec 32 := a &&& b ^^^ a &&& c ^^^ b &&& c
def tf (v : List (BitVec 32)) (k w : BitVec 32) : BitVec 32 := gw v 7 + (rr (gw v 4) 6 ^^^ rr (gw v 4) 11 ^^^ rr (gw v 4) 25) + chf (gw v 4) (gw v 5) (gw v 6) + k + w
def uf (v : List (BitVec 32)) : BitVec 32 := (rr (gw v 0) 2 ^^^ rr (gw v 0) 13 ^^^ rr (gw v 0) 22) + majf (gw v 0) (gw v 1) (gw v 2)
def rnd (v : List (BitVec 32)) (k w : BitVec 32) : List (BitVec 32) := [tf v k w + uf v, gw v 0, gw v 1, gw v 2, gw v 3 + tf v k w, gw v 4, gw v 5, gw v 6]
def rnds (K : List (BitVec 32)) (W : List (BitVec 32)) (v : List (BitVec 32)) : Nat → List (BitVec 32)
  | 0 => v
  | i + 1 => rnd (rnds K W v i) (gw K i) (gw W i)
theorem rnds_length (K W : List (BitVec 32)) {v : List (BitVec 32)} (h : v.length = 8) : ∀ i, (rnds K W v i).length = 8
  | 0 => h
  | i + 1 => rfl
def addw (h v : List (BitVec 32)) (n : Nat) : List (BitVec 32) := (List.range 8).map fun i => if i < n then gw h i + gw v i else gw h i
theorem addw_length (h v : List (BitVec 32)) (n : Nat) : (addw h v n).length = 8 := by simp [addw]
theorem addw_zero {h : List (BitVec 32)} (v : List (BitVec 32)) (hl : h.length = 8) : addw h v 0 = h := by
  apply List.ext_getElem?
  intro i
  unfold addw
  by_cases hi : i < 8
  · rw [List.getElem?_map, List.getElem?_range hi, gw_get (by omega)]
    simp
  · rw [List.getElem?_eq_none (by simp; omega), List.getElem?_eq_none (by omega)]
theorem addw_get {h v : List (BitVec 32)} {n i : Nat} (hi : i < 8) : gw (addw h v n) i = if i < n then gw h i + gw v i else gw h i := gw_of (by
  unfold addw
  rw [List.getElem?_map, List.getElem?_range hi]
  rfl)
theorem addw_succ {h v : List (BitVec 32)} {n : Nat} (hn : n < 8) : (addw h v n).set n (gw (addw h v n) n + gw v n) = addw h v (n + 1) := by
  rw [addw_get hn, if_neg (by omega)]
  apply List.ext_getElem?
  intro i
  by_cases hi : i < 8
  · by_cases e : n = i
    · subst e
      rw [List.getElem?_set_self (by rw [addw_length]; exact hn), gw_get (by rw [addw_length]; exact hn), addw_get hn, if_pos (by omega)]
    · rw [List.getElem?_set_ne e, gw_get (by rw [addw_length]; exact hi), gw_get (by rw [addw_length]; exact hi), addw_get hi, addw_get hi]
      by_cases hin : i < n
      · rw [if_pos hin, if_pos (by omega)]
      · rw [if_neg hin, if_neg (by omega)]
  · rw [List.getElem?_eq_none (by rw [List.length_set, addw_length]; omega), List.getElem?_eq_none (by rw [addw_length]; omega)]
/-- A block is taken. -/
def mixB (K : List (BitVec 32)) (h : List (BitVec 32)) (blk : List (BitVec 8)) : List (BitVec 32) := addw h (rnds K (wsOf blk 64) h 64) 8
theorem mixB_length (K h : List (BitVec 32)) (blk : List (BitVec 8)) : (mixB K h blk).length = 8 := addw_length _ _ _
/-- The blocks of a text. -/
def hN (K H : List (BitVec 32)) (M : List (BitVec 8)) : Nat → List (BitVec 32)
  | 0 => H
  | n + 1 => mixB K (hN K H M n) ((M.drop (64 * n)).take 64)
theorem hN_length (K : List (BitVec 32)) {H : List (BitVec 32)} (hH : H.length = 8) (M : List (BitVec 8)) : ∀ n, (hN K H M n).length = 8
  | 0 => hH
  | n + 1 => mixB_length _ _ _
theorem hN_append (K H : List (BitVec 32)) (M X : List (BitVec 8)) : ∀ n, 64 * n ≤ M.length → hN K H (M ++ X) n = hN K H M n
  | 0, _ => rfl
  | n + 1, h => by
    unfold hN
    rw [hN_append K H M X n (by omega)]
    congr 1
    rw [List.drop_append_of_le_length (by omega), List.take_append_of_le_length (by simp; omega)]
def hOf (K H : List (BitVec 32)) (M : List (BitVec 8)) : List (BitVec 32) := hN K H M (M.length / 64)
/-- What stands behind a text in its last blocks. -/
def be8 (n : BitVec 64) : List (BitVec 8) := [56, 48, 40, 32, 24, 16, 8, 0].map fun s => (n >>> s).setWidth 8
def padOf (n : Nat) : List (BitVec 8) := [128] ++ List.replicate ((119 - n % 64) % 64) 0 ++ be8 (BitVec.ofNat 64 n * 8)
def out4 (x : BitVec 32) : List (BitVec 8) := [(x >>> 24).setWidth 8, (x >>> 16).setWidth 8, (x >>> 8).setWidth 8, x.setWidth 8]
def shaOf (K H : List (BitVec 32)) (M : List (BitVec 8)) : List (BitVec 8) := (hOf K H (M ++ padOf M.length)).flatMap out4
theorem shaOf_length (K : List (BitVec 32)) {H : List (BitVec 32)} (hH : H.length = 8) (M : List (BitVec 8)) : (shaOf K H M).length = 32 := by
  have h8 : (hOf K H (M ++ padOf M.length)).length = 8 := hN_length K hH _ _
  unfold shaOf
  generalize hOf K H (M ++ padOf M.length) = h at h8
  match h, h8 with
  | [a, b, c, d, e, f, g, i], _ => rfl
end Go.Hg
