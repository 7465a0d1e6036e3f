/-
  What a stream of chapter 3 holds when it has taken a text. No program in sight.
-/
import Derived.Test.YtgdphamdbpkjdaaDoorSee
namespace Go.Hg
open Go.RowKit
set_option linter.unusedVariables false
/-- Begun or not, the numbers, the part: those of a stream that has taken M. -/
structure OkS (b : Bool) (h : List (BitVec 32)) (part M : List (BitVec 8)) : Prop where
  hl : h.length = 8
  pl : part.length = 64
  pm : part.take (M.length % 64) = M.drop (64 * (M.length / 64))
  hm : b = true → h = hOf K0 H0 M
  no : b = false → M = []
theorem OkS.new : OkS false (List.replicate 8 0) (List.replicate 64 0) [] := ⟨rfl, rfl, rfl, (fun h => by cases h), fun _ => rfl⟩
theorem OkS.begun {b : Bool} {h : List (BitVec 32)} {part M : List (BitVec 8)} (O : OkS b h part M) : OkS true (if b then h else H0) part M := by
  cases b with
  | true => exact O
  | false =>
    have := O.no rfl
    subst this
    exact ⟨rfl, O.pl, O.pm, (fun _ => rfl), (fun h => by cases h)⟩
/-- The part with some bytes put in. -/
def putP (part : List (BitVec 8)) (r : Nat) (X : List (BitVec 8)) : List (BitVec 8) := part.take r ++ X ++ part.drop (r + X.length)
theorem putP_length {part X : List (BitVec 8)} {r : Nat} (hp : part.length = 64) (h : r + X.length ≤ 64) : (putP part r X).length = 64 := by
  simp [putP, hp]; omega
theorem putP_take {part X : List (BitVec 8)} {r : Nat} (hp : part.length = 64) (h : r + X.length ≤ 64) : (putP part r X).take (r + X.length) = part.take r ++ X := by
  have e : (part.take r ++ X).length = r + X.length := by simp [hp]; omega
  unfold putP
  rw [← e, List.take_left]
theorem putP_v8 (part X : List (BitVec 8)) (r : Nat) : v8 (putP part r X) = (v8 part).take r ++ v8 X ++ (v8 part).drop (r + (v8 X).length) := by
  simp [putP, v8]
theorem OkS.less {h : List (BitVec 32)} {part M X : List (BitVec 8)} {r : Nat} (O : OkS true h part M) (hr : r = M.length % 64) (hx : r + X.length < 64) : OkS true h (putP part r X) (M ++ X) := by
  have hq : (M ++ X).length / 64 = M.length / 64 := by rw [List.length_append]; omega
  have hm : (M ++ X).length % 64 = r + X.length := by rw [List.length_append]; omega
  have h64 : 64 * (M.length / 64) ≤ M.length := by omega
  refine ⟨O.hl, putP_length O.pl (by omega), ?_, fun _ => ?_, (fun h => by cases h)⟩
  · rw [hm, hq, putP_take O.pl (by omega), hr, O.pm, List.drop_append_of_le_length h64]
  · rw [O.hm rfl]
    unfold hOf
    rw [hq, hN_append _ _ _ _ _ h64]
theorem OkS.full {h : List (BitVec 32)} {part M X : List (BitVec 8)} {r : Nat} (O : OkS true h part M) (hr : r = M.length % 64) (hx : r + X.length = 64) : OkS true (mixB K0 h (putP part r X)) (putP part r X) (M ++ X) := by
  have hq : (M ++ X).length / 64 = M.length / 64 + 1 := by rw [List.length_append]; omega
  have hm : (M ++ X).length % 64 = 0 := by rw [List.length_append]; omega
  have h64 : 64 * (M.length / 64) ≤ M.length := by omega
  have hp : putP part r X = (M ++ X).drop (64 * (M.length / 64)) := by
    rw [List.drop_append_of_le_length h64, ← O.pm, ← hr, ← putP_take O.pl (by omega), hx]
    exact (List.take_of_length_le (by rw [putP_length O.pl (by omega)]; omega)).symm
  refine ⟨mixB_length _ _ _, putP_length O.pl (by omega), ?_, fun _ => ?_, (fun h => by cases h)⟩
  · rw [hm, hq, List.take_zero, List.drop_of_length_le]
    rw [List.length_append]; omega
  · rw [O.hm rfl]
    unfold hOf
    rw [hq]
    show _ = mixB K0 (hN K0 H0 (M ++ X) (M.length / 64)) (((M ++ X).drop (64 * (M.length / 64))).take 64)
    rw [hN_append _ _ _ _ _ h64, ← hp, List.take_of_length_le (by rw [putP_length O.pl (by omega)]; omega)]
/-- How long a slice is. -/
def slen : Value → Nat
  | .slice _ n _ => n
  | _ => 0
end Go.Hg
