import Derived.Test.YtmflbekabkainaaGreatDoorProg
import Derived.Test.YtmflbekabkainaaGreatDoorQHgB
import Derived.Test.YtmflbekabkainaaGreatDoorQHgA
set_option linter.unusedVariables false
set_option linter.unusedSimpArgs false
namespace Go.Proofs.YtmflbekabkainaaGreatDoor
open Go.RowKit Go.Hg
attribute [local go_sem] iv_add32 iv_xor32 iv_or32 iv_and32 iv_not32 iv_8_32 iv_32_8 iv_nonneg
set_option maxRecDepth 10000 in
theorem rot_c (x : BitVec 32) (k : Int) (s : Nat) (hs : k % 32 = s) (hk : -1000 ≤ k ∧ k ≤ 1000) (w : World) : Calls Tryz.prog 159 #[.int .u32 (iv x), .int .i64 k] w fun e w' => e = .returned (.int .u32 (iv (rl x s))) ∧ w = w' := by
 have hs32 : s < 32 := by omega
 have e1 : bits .and .u64 (IntKind.u64.wrap k) 31 = s := by
  have h := bits_and_low_u (IntKind.u64.wrap k) 5 (by omega)
  have h2 : ((2 : Int) ^ 5 - 1) = 31 := by decide
  rw [h2] at h
  rw [h, IntKind.wrap_u64]
  have h3 : ((2 : Int) ^ 5) = 32 := by decide
  rw [h3]
  omega
 have e2 : IntKind.u64.wrap (32 - (s : Int)) = ((32 - s : Nat) : Int) := by rw [IntKind.wrap_u64]; omega
 obtain ⟨t, ht⟩ : ∃ t, t = 32 - s := ⟨_, rfl⟩
 rw [← ht] at e2
 have e3 : IntKind.u32.wrap (iv x * 2 ^ s) = iv (x <<< s) := iv_shl32 x s
 have e4 : iv x / 2 ^ t = iv (x >>> t) := iv_shr x t
 have e5 : iv (x <<< s ||| x >>> t) = iv (rl x s) := by rw [ht]; rfl
 have hsb : (s : Int) ≤ 32 := by omega
 have htb : (t : Int) ≤ 32 := by omega
 clear hs hs32 ht
 go_enter Tryz.func159, Tryz.ntmps159
 go_wp2
 go_ret
 exact ⟨rfl, rfl⟩
set_option maxRecDepth 10000 in
theorem turned_c (x : BitVec 32) (by_ : Nat) (h0 : 1 ≤ by_) (h1 : by_ ≤ 31) (w : World) : Calls Tryz.prog 163 #[.int .u32 (iv x), .int .i64 by_] w fun e w' => e = .returned (.int .u32 (iv (rr x by_))) ∧ w = w' := by
 have hw : IntKind.i64.wrap (-(by_ : Int)) = -(by_ : Int) := by rw [IntKind.wrap_i64]; omega
 have h := fun w => rot_c x (-(by_ : Int)) (32 - by_) (by omega) (by omega) w
 go_enter Tryz.func163, Tryz.ntmps163
 go_wp2_with fail
 refine (h _).mono ?_
 rintro e w' ⟨rfl, rfl⟩
 go_wp2
 go_ret
 exact ⟨rfl, rfl⟩
end Go.Proofs.YtmflbekabkainaaGreatDoor
