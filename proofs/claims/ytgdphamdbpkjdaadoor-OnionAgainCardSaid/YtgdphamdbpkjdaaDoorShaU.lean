/-
  The bytes of a sum, one by one. No program in sight.
-/
import Derived.Test.YtgdphamdbpkjdaaDoorShaT
namespace Go.Hg
open Go.RowKit
set_option linter.unusedVariables false
/-- The first ones of some bytes, and noughts behind them. -/
def upto (T : List (BitVec 8)) (m c : Nat) : List (BitVec 8) := T.take c ++ zs (m - c)
theorem upto_length {T : List (BitVec 8)} {m c : Nat} (h : T.length = m) (hc : c ≤ m) : (upto T m c).length = m := by
  simp [upto, zs_length, h]; omega
theorem upto_zero (T : List (BitVec 8)) (m : Nat) : upto T m 0 = zs m := by simp [upto]
theorem upto_full {T : List (BitVec 8)} {m : Nat} (h : T.length = m) : upto T m m = T := by
  simp [upto, zs, ← h]
theorem upto_set {T : List (BitVec 8)} {m c : Nat} (h : T.length = m) (hc : c < m) : (upto T m c).set c (gb T c) = upto T m (c + 1) := by
  have hl : (T.take c).length = c := by rw [List.length_take]; omega
  unfold upto
  rw [List.set_append_right _ _ (by omega), hl, Nat.sub_self]
  have e : zs (m - c) = 0 :: zs (m - (c + 1)) := by
    unfold zs
    rw [show m - c = (m - (c + 1)) + 1 by omega, List.replicate_succ]
  rw [e, List.set_cons_zero, List.take_succ_eq_append_getElem (by omega)]
  have e2 : gb T c = T[c]'(by omega) := by
    have := gb_get (bs := T) (i := c) (by omega)
    rw [List.getElem?_eq_getElem (by omega)] at this
    exact (Option.some.inj this).symm
  rw [e2, List.append_assoc]
  rfl
theorem flat_get {g : BitVec 32 → List (BitVec 8)} (hg : ∀ x, (g x).length = 4) : ∀ (l : List (BitVec 32)) (i k : Nat), i < l.length → k < 4 → gb (l.flatMap g) (4 * i + k) = gb (g (gw l i)) k
  | x :: l, 0, k, h, hk => by
    unfold gb
    rw [List.flatMap_cons, List.getD_eq_getElem?_getD, List.getD_eq_getElem?_getD, Nat.mul_zero, Nat.zero_add, List.getElem?_append_left (by rw [hg]; exact hk)]
    rfl
  | x :: l, i + 1, k, h, hk => by
    have ih := flat_get hg l i k (by simpa using h) hk
    have e : gw (x :: l) (i + 1) = gw l i := by simp [gw]
    rw [e, ← ih]
    unfold gb
    rw [List.flatMap_cons, List.getD_eq_getElem?_getD, List.getD_eq_getElem?_getD, List.getElem?_append_right (by rw [hg]; omega), hg]
    congr 2
    omega
theorem out4_get (x : BitVec 32) {k a : Nat} (hk : k < 4) (ha : a = 24 - 8 * k) : gb (out4 x) k = (x >>> a).setWidth 8 := by
  subst ha
  match k, hk with
  | 0, _ => rfl
  | 1, _ => rfl
  | 2, _ => rfl
  | 3, _ => simp [gb, out4]
theorem outL_get (x : BitVec 32) {k a : Nat} (hk : k < 4) (ha : a = 8 * k) : gb (outL x) k = (x >>> a).setWidth 8 := by
  subst ha
  match k, hk with
  | 0, _ => simp [gb, outL]
  | 1, _ => rfl
  | 2, _ => rfl
  | 3, _ => rfl
theorem be8_get (n : BitVec 64) {k a : Nat} (hk : k < 8) (ha : a = 56 - 8 * k) : (be8 n).take (k + 1) = (be8 n).take k ++ [(n >>> a).setWidth 8] := by
  subst ha
  match k, hk with
  | 0, _ => rfl
  | 1, _ => rfl
  | 2, _ => rfl
  | 3, _ => rfl
  | 4, _ => rfl
  | 5, _ => rfl
  | 6, _ => rfl
  | 7, _ => rfl
end Go.Hg
