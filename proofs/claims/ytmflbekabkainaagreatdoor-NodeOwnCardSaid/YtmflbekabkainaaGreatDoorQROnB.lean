import Derived.Test.YtmflbekabkainaaGreatDoorQROnA
import Derived.Test.YtmflbekabkainaaGreatDoorQRSlot
import Derived.Test.YtmflbekabkainaaGreatDoorQPeel
set_option linter.unusedVariables false
set_option linter.unusedSimpArgs false
namespace Go.Proofs.YtmflbekabkainaaGreatDoor
open Go.RowKit Go.Hg
def rpZ : List Value := List.replicate 6 (Value.string ByteArray.empty)
theorem rpZ_one : ∀ u ∈ rpZ.toArray.toList, u.oneCell' = true := by intro u hu; simp [rpZ] at hu; subst hu; rfl
theorem rpC_one (p : PktD) : ∀ u ∈ (rpC p).toArray.toList, u.oneCell' = true := by intro u hu; simp [rpC] at hu; rcases hu with rfl | rfl | rfl | rfl | rfl | rfl <;> rfl
theorem places_rp : placesOf Tryz.prog 62 = some (rpZ, [(0, 1), (1, 1), (2, 1), (3, 1), (4, 1), (5, 1)]) := by kernel_rfl
end Go.Proofs.YtmflbekabkainaaGreatDoor
