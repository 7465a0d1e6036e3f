/-
  All that a row of pairs tells. 
-/
import Derived.Test.YthhmgodnmgmjdaaLaw14
namespace Go.Proofs.Ythhmgodnmgmjdaa
open Go.RowKit Go.Hg
set_option linter.unusedVariables false
def told (f g : Nat → Int) : Nat → List Int
  | 0 => []
  | j + 1 => if apB (f j) (g j) = true then told f g j ++ [apZ (f j) (g j)] else told f g j
theorem told_length (f g : Nat → Int) : ∀ j, (told f g j).length ≤ j
  | 0 => Nat.le_refl _
  | j + 1 => by
    have := told_length f g j
    unfold told
    split
    · simp; omega
    · omega
theorem len_le (D : List Int) : len D ≤ 16 := by unfold len; rw [last_length]; omega
theorem has_eq (D : List Int) : has D = decide (0 < (len D : Int)) := by
  unfold has len
  rw [last_length]
  apply decide_eq_decide.2
  omega
end Go.Proofs.Ythhmgodnmgmjdaa
