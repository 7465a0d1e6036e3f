import Derived.Test.YtmflbekabkainaaGreatDoorQOctR
import Derived.Test.YtmflbekabkainaaGreatDoorQHgC
import Derived.Test.YtmflbekabkainaaGreatDoorQHgB
set_option linter.unusedVariables false
set_option linter.unusedSimpArgs false
namespace Go.Proofs.YtmflbekabkainaaGreatDoor
open Go.RowKit Go.Hg
theorem under_strT : Tryz.prog.underlying 9 = some .string := by kernel_rfl
theorem under_bytesT : Tryz.prog.underlying 33 = some (.slice 5) := by kernel_rfl
theorem under_u8T : Tryz.prog.underlying 5 = some (.int .u8) := by kernel_rfl
theorem byte_facts (y : Nat) : ∃ (b : BitVec 8) (z : Nat), b = BitVec.ofNat 8 y ∧ z = y >>> 8 ∧ (y : Int).tmod 256 = iv b ∧ iv b % 256 = iv b ∧ (y : Int).tdiv 256 = (z : Int) := by
 refine ⟨_, _, rfl, rfl, ?_, ?_, ?_⟩
 · rw [Int.tmod_eq_emod_of_nonneg (by omega)]
   unfold iv
   rw [BitVec.toNat_ofNat]
   omega
 · unfold iv
   have := (BitVec.ofNat 8 y).isLt
   omega
 · rw [Int.tdiv_eq_ediv_of_nonneg (by omega), Nat.shiftRight_eq_div_pow]
   omega
set_option maxRecDepth 10000 in
set_option maxHeartbeats 1000000 in
theorem RText_c {w0 w : World} {F : List SP} {n k : Nat} (H : At w0 F w) (hn : n < 18446744073709551616) (hk : k ≤ 16) : Calls Tryz.prog 108 #[.int .u64 (n : Int), .int .i64 (k : Int)] w fun r w' => r = .returned (.string (sB (beN k n))) ∧ At w0 F w' := by
 have HN := Lib.hid hn
 clear hn
 go_enter Tryz.func108, Tryz.ntmps108
 go_wp2_with fail
 go_loopw [0, 5, 6] (fun x s i wr => ∃ (c y : Nat), c ≤ k ∧ y = n >>> (8 * c) ∧ x = .int .u64 (y : Int) ∧ s = .string (sB (beN c n)) ∧ i = .int .i64 (c : Int) ∧ At w0 F wr) (fun _ _ i _ => k - (intOf i).toNat)
 case atStart => exact ⟨0, n, by omega, rfl, rfl, rfl, rfl, H⟩
 case round =>
  clear H
  obtain ⟨c, y, hck, hy, rfl, rfl, rfl, H⟩ := hrel
  by_cases hc : c < k
  · have hlt : (c : Int) < (k : Int) := by omega
    obtain ⟨b, z, hb, hz, q1, q2, q3⟩ := byte_facts y
    have hbe := Lib.hid (show [b] ++ beN c n = beN (c + 1) n by rw [hb, hy]; rfl)
    have hz2 := Lib.hid (show z = n >>> (8 * (c + 1)) by rw [hz, hy, ← Nat.shiftRight_add, Nat.mul_add])
    have hkk := Lib.hid hk
    have q4 : IntKind.u64.wrap (z : Int) = (z : Int) := by
     have h1 : z ≤ n := by rw [hz2.out, Nat.shiftRight_eq_div_pow]; exact Nat.div_le_self _ _
     have h2 := HN.out
     rw [IntKind.wrap_u64]
     omega
    clear hy hb hz
    go_wp2_with ((with_reducible refine wpList_op rfl ?_); intro _ hK; first
     | (refine dst_is 15 rfl ?_; refine wp_lbuild el_u8 33 under_bytesT _ rfl rfl (y := b) rfl (by omega) (by omega) H (fun B w' H => hK _ _ ?_))
     | (refine dst_is 16 rfl ?_; refine wp_run (exec_str_of (bs := [b]) rfl under_bytesT under_u8T under_strT rfl H (see_raw (c := c8) (xs := [b]) (cap := 1) 0 rfl (by simp) rfl)) ?_; replace H := H.tail; refine hK _ _ ?_)
     | (refine dst_is 18 rfl ?_; refine wp_sadd _ _ _ _ rfl (u := [b]) (v := beN c n) rfl rfl (by rw [beN_length]; simp; have := hkk.out; omega) ?_; rw [hbe.out]; refine hK _ _ ?_))
    first
     | (refine ⟨?_, ?measure⟩; iterate 220 (try apply Exists.intro); refine ⟨?rel, rfl⟩)
     | refine ⟨?rel, ?measure⟩
    case rel => exact ⟨c + 1, z, by omega, hz2.out, rfl, rfl, by go_num, H⟩
    case measure => simp [intOf]; omega
  · obtain rfl : c = k := by omega
    go_wp2_with fail
    go_ret
    exact ⟨rfl, H⟩
set_option maxRecDepth 10000 in
set_option maxHeartbeats 1000000 in
theorem RText11_c {w0 w : World} {F : List SP} {n k : Nat} (H : At w0 F w) (hn : n < 18446744073709551616) (hk : k ≤ 16) : Calls Tryz.prog 76 #[.int .u64 (n : Int), .int .i64 (k : Int)] w fun r w' => r = .returned (.string (sB (beN k n))) ∧ At w0 F w' := by
 have HN := Lib.hid hn
 clear hn
 go_enter Tryz.func76, Tryz.ntmps76
 go_wp2_with fail
 go_loopw [0, 5, 6] (fun x s i wr => ∃ (c y : Nat), c ≤ k ∧ y = n >>> (8 * c) ∧ x = .int .u64 (y : Int) ∧ s = .string (sB (beN c n)) ∧ i = .int .i64 (c : Int) ∧ At w0 F wr) (fun _ _ i _ => k - (intOf i).toNat)
 case atStart => exact ⟨0, n, by omega, rfl, rfl, rfl, rfl, H⟩
 case round =>
  clear H
  obtain ⟨c, y, hck, hy, rfl, rfl, rfl, H⟩ := hrel
  by_cases hc : c < k
  · have hlt : (c : Int) < (k : Int) := by omega
    obtain ⟨b, z, hb, hz, q1, q2, q3⟩ := byte_facts y
    have hbe := Lib.hid (show [b] ++ beN c n = beN (c + 1) n by rw [hb, hy]; rfl)
    have hz2 := Lib.hid (show z = n >>> (8 * (c + 1)) by rw [hz, hy, ← Nat.shiftRight_add, Nat.mul_add])
    have hkk := Lib.hid hk
    have q4 : IntKind.u64.wrap (z : Int) = (z : Int) := by
     have h1 : z ≤ n := by rw [hz2.out, Nat.shiftRight_eq_div_pow]; exact Nat.div_le_self _ _
     have h2 := HN.out
     rw [IntKind.wrap_u64]
     omega
    clear hy hb hz
    go_wp2_with ((with_reducible refine wpList_op rfl ?_); intro _ hK; first
     | (refine dst_is 15 rfl ?_; refine wp_lbuild el_u8 33 under_bytesT _ rfl rfl (y := b) rfl (by omega) (by omega) H (fun B w' H => hK _ _ ?_))
     | (refine dst_is 16 rfl ?_; refine wp_run (exec_str_of (bs := [b]) rfl under_bytesT under_u8T under_strT rfl H (see_raw (c := c8) (xs := [b]) (cap := 1) 0 rfl (by simp) rfl)) ?_; replace H := H.tail; refine hK _ _ ?_)
     | (refine dst_is 18 rfl ?_; refine wp_sadd _ _ _ _ rfl (u := [b]) (v := beN c n) rfl rfl (by rw [beN_length]; simp; have := hkk.out; omega) ?_; rw [hbe.out]; refine hK _ _ ?_))
    first
     | (refine ⟨?_, ?measure⟩; iterate 220 (try apply Exists.intro); refine ⟨?rel, rfl⟩)
     | refine ⟨?rel, ?measure⟩
    case rel => exact ⟨c + 1, z, by omega, hz2.out, rfl, rfl, by go_num, H⟩
    case measure => simp [intOf]; omega
  · obtain rfl : c = k := by omega
    go_wp2_with fail
    go_ret
    exact ⟨rfl, H⟩
theorem pow_le32 (k : Nat) (h : k ≤ 32) : (2 : Nat) ^ 32 = 2 ^ k * 2 ^ (32 - k) := by
 rw [← Nat.pow_add]
 congr 1
 omega
theorem rr_toNat (x : BitVec 32) (k : Nat) (h : k < 32) : (rr x k).toNat = (x.toNat % 2 ^ k) * 2 ^ (32 - k) + x.toNat / 2 ^ k := by
 have hx := x.isLt
 unfold rr rl
 rw [show 32 - (32 - k) = k by omega, BitVec.toNat_or, BitVec.toNat_shiftLeft, BitVec.toNat_ushiftRight, Nat.shiftLeft_eq, Nat.shiftRight_eq_div_pow]
 have e : x.toNat * 2 ^ (32 - k) % 2 ^ 32 = (x.toNat % 2 ^ k) * 2 ^ (32 - k) := by
  rw [pow_le32 k (by omega), Nat.mul_mod_mul_right]
 have hd : x.toNat / 2 ^ k < 2 ^ (32 - k) := by
  rw [Nat.div_lt_iff_lt_mul (Nat.two_pow_pos k), Nat.mul_comm, ← pow_le32 k (by omega)]
  exact hx
 rw [e, ← Nat.shiftLeft_eq, ← Nat.shiftLeft_add_eq_or_of_lt hd]
theorem turn_eq (x : BitVec 32) (k : Nat) (h : k < 32) {C C' D : Int} (hC : C = ((2 ^ k : Nat) : Int)) (hC' : C' = ((2 ^ k : Nat) : Int)) (hD : D = ((2 ^ (32 - k) : Nat) : Int)) :
    IntKind.u32.wrap (IntKind.u32.wrap ((iv x).tdiv C) + IntKind.u32.wrap ((iv x).tmod C' * D)) = iv (rr x k) := by
 subst hC hC' hD
 have hx := x.isLt
 have hr := rr_toNat x k h
 have hl := (rr x k).isLt
 have h1 : (iv x).tdiv ((2 ^ k : Nat) : Int) = ((x.toNat / 2 ^ k : Nat) : Int) := by unfold iv; rw [Int.tdiv_eq_ediv_of_nonneg (by omega)]; rfl
 have h2 : (iv x).tmod ((2 ^ k : Nat) : Int) = ((x.toNat % 2 ^ k : Nat) : Int) := by unfold iv; rw [Int.tmod_eq_emod_of_nonneg (by omega)]; rfl
 rw [h1, h2]
 have h3 : ((x.toNat % 2 ^ k : Nat) : Int) * ((2 ^ (32 - k) : Nat) : Int) = (((x.toNat % 2 ^ k) * 2 ^ (32 - k) : Nat) : Int) := by push_cast; rfl
 rw [h3]
 generalize (x.toNat % 2 ^ k) * 2 ^ (32 - k) = A at hr
 generalize x.toNat / 2 ^ k = B at hr
 rw [IntKind.wrap_u32, IntKind.wrap_u32, IntKind.wrap_u32]
 unfold iv
 rw [hr] at hl ⊢
 have e32 : (2 : Nat) ^ 32 = 4294967296 := by decide
 rw [e32] at hl
 omega
set_option maxRecDepth 10000 in
set_option maxHeartbeats 1000000 in
theorem RTurn2_c {w0 w : World} {F : List SP} {x : BitVec 32} (H : At w0 F w) : Calls Tryz.prog 140 #[.int .u32 (iv x), .int .i64 2] w fun r w' => r = .returned (.int .u32 (iv (rr x 2))) ∧ At w0 F w' := by
 go_enter Tryz.func140, Tryz.ntmps140
 go_wp2_with fail
 refine wpM_begin [] ((At w0 F)) [(0, 2), (1, 2), (2, 2), (3, 2), (4, 2), (5, 2), (6, 2), (7, 2), (8, 2), (9, 2), (10, 0)] rfl (by kernel_rfl) (by kernel_rfl) ((H.drew)) ?_
 intro ops hOps hS
 replace H := H.drew
 iterate 10 refine fm hOps ?_
 refine wpM_next hOps rfl rfl ?_
 intro K hK
 refine wp_run rfl ?_
 have hS := (hS)
 refine hK _ _ (.inr hS) ?_
 clear hK K
 simp only [nrm]
 refine wpM_end ?_
 clear hOps hS ops
 go_wp2_with fail
 go_ret
 exact ⟨congrArg (fun z => Ending.returned (Value.int IntKind.u32 z)) (turn_eq x 2 (by omega) (by decide) (by decide) (by decide)), H⟩
set_option maxRecDepth 10000 in
set_option maxHeartbeats 1000000 in
theorem RTurn6_c {w0 w : World} {F : List SP} {x : BitVec 32} (H : At w0 F w) : Calls Tryz.prog 140 #[.int .u32 (iv x), .int .i64 6] w fun r w' => r = .returned (.int .u32 (iv (rr x 6))) ∧ At w0 F w' := by
 go_enter Tryz.func140, Tryz.ntmps140
 go_wp2_with fail
 refine wpM_begin [] ((At w0 F)) [(0, 2), (1, 2), (2, 2), (3, 2), (4, 2), (5, 2), (6, 2), (7, 2), (8, 2), (9, 2), (10, 0)] rfl (by kernel_rfl) (by kernel_rfl) ((H.drew)) ?_
 intro ops hOps hS
 replace H := H.drew
 iterate 10 refine fm hOps ?_
 refine wpM_next hOps rfl rfl ?_
 intro K hK
 refine wp_run rfl ?_
 have hS := (hS)
 refine hK _ _ (.inr hS) ?_
 clear hK K
 simp only [nrm]
 refine wpM_end ?_
 clear hOps hS ops
 go_wp2_with fail
 go_ret
 exact ⟨congrArg (fun z => Ending.returned (Value.int IntKind.u32 z)) (turn_eq x 6 (by omega) (by decide) (by decide) (by decide)), H⟩
set_option maxRecDepth 10000 in
set_option maxHeartbeats 1000000 in
theorem RTurn7_c {w0 w : World} {F : List SP} {x : BitVec 32} (H : At w0 F w) : Calls Tryz.prog 140 #[.int .u32 (iv x), .int .i64 7] w fun r w' => r = .returned (.int .u32 (iv (rr x 7))) ∧ At w0 F w' := by
 go_enter Tryz.func140, Tryz.ntmps140
 go_wp2_with fail
 refine wpM_begin [] ((At w0 F)) [(0, 2), (1, 2), (2, 2), (3, 2), (4, 2), (5, 2), (6, 2), (7, 2), (8, 2), (9, 2), (10, 0)] rfl (by kernel_rfl) (by kernel_rfl) ((H.drew)) ?_
 intro ops hOps hS
 replace H := H.drew
 iterate 10 refine fm hOps ?_
 refine wpM_next hOps rfl rfl ?_
 intro K hK
 refine wp_run rfl ?_
 have hS := (hS)
 refine hK _ _ (.inr hS) ?_
 clear hK K
 simp only [nrm]
 refine wpM_end ?_
 clear hOps hS ops
 go_wp2_with fail
 go_ret
 exact ⟨congrArg (fun z => Ending.returned (Value.int IntKind.u32 z)) (turn_eq x 7 (by omega) (by decide) (by decide) (by decide)), H⟩
set_option maxRecDepth 10000 in
set_option maxHeartbeats 1000000 in
theorem RTurn11_c {w0 w : World} {F : List SP} {x : BitVec 32} (H : At w0 F w) : Calls Tryz.prog 140 #[.int .u32 (iv x), .int .i64 11] w fun r w' => r = .returned (.int .u32 (iv (rr x 11))) ∧ At w0 F w' := by
 go_enter Tryz.func140, Tryz.ntmps140
 go_wp2_with fail
 refine wpM_begin [] ((At w0 F)) [(0, 2), (1, 2), (2, 2), (3, 2), (4, 2), (5, 2), (6, 2), (7, 2), (8, 2), (9, 2), (10, 0)] rfl (by kernel_rfl) (by kernel_rfl) ((H.drew)) ?_
 intro ops hOps hS
 replace H := H.drew
 iterate 10 refine fm hOps ?_
 refine wpM_next hOps rfl rfl ?_
 intro K hK
 refine wp_run rfl ?_
 have hS := (hS)
 refine hK _ _ (.inr hS) ?_
 clear hK K
 simp only [nrm]
 refine wpM_end ?_
 clear hOps hS ops
 go_wp2_with fail
 go_ret
 exact ⟨congrArg (fun z => Ending.returned (Value.int IntKind.u32 z)) (turn_eq x 11 (by omega) (by decide) (by decide) (by decide)), H⟩
set_option maxRecDepth 10000 in
set_option maxHeartbeats 1000000 in
theorem RTurn13_c {w0 w : World} {F : List SP} {x : BitVec 32} (H : At w0 F w) : Calls Tryz.prog 140 #[.int .u32 (iv x), .int .i64 13] w fun r w' => r = .returned (.int .u32 (iv (rr x 13))) ∧ At w0 F w' := by
 go_enter Tryz.func140, Tryz.ntmps140
 go_wp2_with fail
 refine wpM_begin [] ((At w0 F)) [(0, 2), (1, 2), (2, 2), (3, 2), (4, 2), (5, 2), (6, 2), (7, 2), (8, 2), (9, 2), (10, 0)] rfl (by kernel_rfl) (by kernel_rfl) ((H.drew)) ?_
 intro ops hOps hS
 replace H := H.drew
 iterate 10 refine fm hOps ?_
 refine wpM_next hOps rfl rfl ?_
 intro K hK
 refine wp_run rfl ?_
 have hS := (hS)
 refine hK _ _ (.inr hS) ?_
 clear hK K
 simp only [nrm]
 refine wpM_end ?_
 clear hOps hS ops
 go_wp2_with fail
 go_ret
 exact ⟨congrArg (fun z => Ending.returned (Value.int IntKind.u32 z)) (turn_eq x 13 (by omega) (by decide) (by decide) (by decide)), H⟩
set_option maxRecDepth 10000 in
set_option maxHeartbeats 1000000 in
theorem RTurn17_c {w0 w : World} {F : List SP} {x : BitVec 32} (H : At w0 F w) : Calls Tryz.prog 140 #[.int .u32 (iv x), .int .i64 17] w fun r w' => r = .returned (.int .u32 (iv (rr x 17))) ∧ At w0 F w' := by
 go_enter Tryz.func140, Tryz.ntmps140
 go_wp2_with fail
 refine wpM_begin [] ((At w0 F)) [(0, 2), (1, 2), (2, 2), (3, 2), (4, 2), (5, 2), (6, 2), (7, 2), (8, 2), (9, 2), (10, 0)] rfl (by kernel_rfl) (by kernel_rfl) ((H.drew)) ?_
 intro ops hOps hS
 replace H := H.drew
 iterate 10 refine fm hOps ?_
 refine wpM_next hOps rfl rfl ?_
 intro K hK
 refine wp_run rfl ?_
 have hS := (hS)
 refine hK _ _ (.inr hS) ?_
 clear hK K
 simp only [nrm]
 refine wpM_end ?_
 clear hOps hS ops
 go_wp2_with fail
 go_ret
 exact ⟨congrArg (fun z => Ending.returned (Value.int IntKind.u32 z)) (turn_eq x 17 (by omega) (by decide) (by decide) (by decide)), H⟩
set_option maxRecDepth 10000 in
set_option maxHeartbeats 1000000 in
theorem RTurn18_c {w0 w : World} {F : List SP} {x : BitVec 32} (H : At w0 F w) : Calls Tryz.prog 140 #[.int .u32 (iv x), .int .i64 18] w fun r w' => r = .returned (.int .u32 (iv (rr x 18))) ∧ At w0 F w' := by
 go_enter Tryz.func140, Tryz.ntmps140
 go_wp2_with fail
 refine wpM_begin [] ((At w0 F)) [(0, 2), (1, 2), (2, 2), (3, 2), (4, 2), (5, 2), (6, 2), (7, 2), (8, 2), (9, 2), (10, 0)] rfl (by kernel_rfl) (by kernel_rfl) ((H.drew)) ?_
 intro ops hOps hS
 replace H := H.drew
 iterate 10 refine fm hOps ?_
 refine wpM_next hOps rfl rfl ?_
 intro K hK
 refine wp_run rfl ?_
 have hS := (hS)
 refine hK _ _ (.inr hS) ?_
 clear hK K
 simp only [nrm]
 refine wpM_end ?_
 clear hOps hS ops
 go_wp2_with fail
 go_ret
 exact ⟨congrArg (fun z => Ending.returned (Value.int IntKind.u32 z)) (turn_eq x 18 (by omega) (by decide) (by decide) (by decide)), H⟩
set_option maxRecDepth 10000 in
set_option maxHeartbeats 1000000 in
theorem RTurn19_c {w0 w : World} {F : List SP} {x : BitVec 32} (H : At w0 F w) : Calls Tryz.prog 140 #[.int .u32 (iv x), .int .i64 19] w fun r w' => r = .returned (.int .u32 (iv (rr x 19))) ∧ At w0 F w' := by
 go_enter Tryz.func140, Tryz.ntmps140
 go_wp2_with fail
 refine wpM_begin [] ((At w0 F)) [(0, 2), (1, 2), (2, 2), (3, 2), (4, 2), (5, 2), (6, 2), (7, 2), (8, 2), (9, 2), (10, 0)] rfl (by kernel_rfl) (by kernel_rfl) ((H.drew)) ?_
 intro ops hOps hS
 replace H := H.drew
 iterate 10 refine fm hOps ?_
 refine wpM_next hOps rfl rfl ?_
 intro K hK
 refine wp_run rfl ?_
 have hS := (hS)
 refine hK _ _ (.inr hS) ?_
 clear hK K
 simp only [nrm]
 refine wpM_end ?_
 clear hOps hS ops
 go_wp2_with fail
 go_ret
 exact ⟨congrArg (fun z => Ending.returned (Value.int IntKind.u32 z)) (turn_eq x 19 (by omega) (by decide) (by decide) (by decide)), H⟩
set_option maxRecDepth 10000 in
set_option maxHeartbeats 1000000 in
theorem RTurn22_c {w0 w : World} {F : List SP} {x : BitVec 32} (H : At w0 F w) : Calls Tryz.prog 140 #[.int .u32 (iv x), .int .i64 22] w fun r w' => r = .returned (.int .u32 (iv (rr x 22))) ∧ At w0 F w' := by
 go_enter Tryz.func140, Tryz.ntmps140
 go_wp2_with fail
 refine wpM_begin [] ((At w0 F)) [(0, 2), (1, 2), (2, 2), (3, 2), (4, 2), (5, 2), (6, 2), (7, 2), (8, 2), (9, 2), (10, 0)] rfl (by kernel_rfl) (by kernel_rfl) ((H.drew)) ?_
 intro ops hOps hS
 replace H := H.drew
 iterate 10 refine fm hOps ?_
 refine wpM_next hOps rfl rfl ?_
 intro K hK
 refine wp_run rfl ?_
 have hS := (hS)
 refine hK _ _ (.inr hS) ?_
 clear hK K
 simp only [nrm]
 refine wpM_end ?_
 clear hOps hS ops
 go_wp2_with fail
 go_ret
 exact ⟨congrArg (fun z => Ending.returned (Value.int IntKind.u32 z)) (turn_eq x 22 (by omega) (by decide) (by decide) (by decide)), H⟩
set_option maxRecDepth 10000 in
set_option maxHeartbeats 1000000 in
theorem RTurn25_c {w0 w : World} {F : List SP} {x : BitVec 32} (H : At w0 F w) : Calls Tryz.prog 140 #[.int .u32 (iv x), .int .i64 25] w fun r w' => r = .returned (.int .u32 (iv (rr x 25))) ∧ At w0 F w' := by
 go_enter Tryz.func140, Tryz.ntmps140
 go_wp2_with fail
 refine wpM_begin [] ((At w0 F)) [(0, 2), (1, 2), (2, 2), (3, 2), (4, 2), (5, 2), (6, 2), (7, 2), (8, 2), (9, 2), (10, 0)] rfl (by kernel_rfl) (by kernel_rfl) ((H.drew)) ?_
 intro ops hOps hS
 replace H := H.drew
 iterate 10 refine fm hOps ?_
 refine wpM_next hOps rfl rfl ?_
 intro K hK
 refine wp_run rfl ?_
 have hS := (hS)
 refine hK _ _ (.inr hS) ?_
 clear hK K
 simp only [nrm]
 refine wpM_end ?_
 clear hOps hS ops
 go_wp2_with fail
 go_ret
 exact ⟨congrArg (fun z => Ending.returned (Value.int IntKind.u32 z)) (turn_eq x 25 (by omega) (by decide) (by decide) (by decide)), H⟩
theorem el_u32i : El Tryz.prog 36 1 4 (ic .u32) := ⟨⟨.int .u32 0, by kernel_rfl, rfl⟩, fun _ => rfl, fun x u hu => by simp [ic] at hu; subst hu; rfl⟩
theorem under_u32s : Tryz.prog.underlying 245 = some (.slice 36) := by kernel_rfl
theorem map_iv_get {l : List (BitVec 32)} {i : Nat} (h : i < l.length) : (l.map fun b => iv b)[i]? = some (iv (gw l i)) := by rw [List.getElem?_map, gw_get h]; rfl
set_option maxRecDepth 10000 in
set_option maxHeartbeats 1000000 in
theorem RK_c {w0 w : World} {F : List SP} {i : Nat} (H : At w0 F w) (hi : i < 64) : Calls Tryz.prog 141 #[.int .i64 (i : Int)] w fun r w' => r = .returned (.int .u32 (iv (gw K0 i))) ∧ At w0 F w' := by
 have hi2 : (i : Int) < 64 := by omega
 have HI := Lib.hid (map_iv_get (l := K0) (i := i) hi)
 obtain ⟨Z, hZ⟩ : ∃ Z, Z = iv (gw K0 i) := ⟨_, rfl⟩
 rw [← hZ] at HI ⊢
 clear hZ
 go_enter Tryz.func141, Tryz.ntmps141
 go_wp2_with ((with_reducible refine wpList_op rfl ?_); intro _ hK; first
  | (refine dst_is 4 rfl ?_; refine wp_lits el_u32i 245 under_u32s _ _ rfl (K0.map fun b => iv b) rfl (by decide) (by decide) (by kernel_rfl) H (fun B w' H => hK _ _ (Stop.go ?_))))
 refine Stop.un ?_
 go_wp2_with ((with_reducible refine wpList_op rfl ?_); intro _ hK; first
  | (refine dst_is 8 rfl ?_; refine wp_get 36 _ rfl rfl (by kernel_rfl) (v := .int .u32 Z) (by simpa using lrow_cell (c := ic .u32) (j := 0) (x := Z) (v := .int .u32 Z) el_u32i H 0 rfl HI.out rfl) (hK _ _ ?_)))
 go_ret
 exact ⟨rfl, H.tail⟩
set_option maxRecDepth 10000 in
set_option maxHeartbeats 1000000 in
theorem RH_c {w0 w : World} {F : List SP} {i : Nat} (H : At w0 F w) (hi : i < 8) : Calls Tryz.prog 139 #[.int .i64 (i : Int)] w fun r w' => r = .returned (.int .u32 (iv (gw H0 i))) ∧ At w0 F w' := by
 have hi2 : (i : Int) < 8 := by omega
 have HI := Lib.hid (map_iv_get (l := H0) (i := i) hi)
 obtain ⟨Z, hZ⟩ : ∃ Z, Z = iv (gw H0 i) := ⟨_, rfl⟩
 rw [← hZ] at HI ⊢
 clear hZ
 go_enter Tryz.func139, Tryz.ntmps139
 go_wp2_with ((with_reducible refine wpList_op rfl ?_); intro _ hK; first
  | (refine dst_is 4 rfl ?_; refine wp_lits el_u32i 245 under_u32s _ _ rfl (H0.map fun b => iv b) rfl (by decide) (by decide) (by kernel_rfl) H (fun B w' H => hK _ _ (Stop.go ?_))))
 refine Stop.un ?_
 go_wp2_with ((with_reducible refine wpList_op rfl ?_); intro _ hK; first
  | (refine dst_is 8 rfl ?_; refine wp_get 36 _ rfl rfl (by kernel_rfl) (v := .int .u32 Z) (by simpa using lrow_cell (c := ic .u32) (j := 0) (x := Z) (v := .int .u32 Z) el_u32i H 0 rfl HI.out rfl) (hK _ _ ?_)))
 go_ret
 exact ⟨rfl, H.tail⟩
theorem number_facts (l : List (BitVec 8)) (c : Nat) (hl : l.length ≤ 8) (hc : c < l.length) : ∃ (b : BitVec 8) (m2 m3 : Nat), l[c]? = some b ∧ m3 = deN (l.take (c + 1)) ∧ (deN (l.take c) : Int) * 256 = (m2 : Int) ∧ IntKind.u64.wrap (m2 : Int) = m2 ∧ IntKind.u64.wrap (iv b) = iv b ∧ (m2 : Int) + iv b = (m3 : Int) ∧ IntKind.u64.wrap (m3 : Int) = m3 := by
 have e : l.take (c + 1) = l.take c ++ [gb l c] := by rw [List.take_add_one, gb_get hc]; rfl
 have hlt := deN_lt (l.take (c + 1))
 have hp : (256 : Nat) ^ (l.take (c + 1)).length ≤ 256 ^ 8 := Nat.pow_le_pow_right (by omega) (by rw [List.length_take]; omega)
 have h8 : (256 : Nat) ^ 8 = 18446744073709551616 := by decide
 have hb := (gb l c).isLt
 have hs := deN_snoc (l.take c) (gb l c)
 rw [← e] at hs
 refine ⟨gb l c, deN (l.take c) * 256, deN (l.take (c + 1)), gb_get hc, rfl, (Int.natCast_mul _ _).symm, ?_, ?_, ?_, ?_⟩
 · rw [IntKind.wrap_u64]; omega
 · rw [IntKind.wrap_u64]; unfold iv; omega
 · unfold iv; omega
 · rw [IntKind.wrap_u64]; omega
set_option maxRecDepth 10000 in
set_option maxHeartbeats 1000000 in
theorem RNumber_c {w0 w : World} {F : List SP} {l : List (BitVec 8)} (H : At w0 F w) (hl : l.length ≤ 8) : Calls Tryz.prog 120 #[.string (sB l)] w fun r w' => r = .returned (.int .u64 (deN l : Int)) ∧ At w0 F w' := by
 obtain ⟨n, hn⟩ : ∃ n, n = l.length := ⟨_, rfl⟩
 have HN := Lib.hid hn
 have hsz : (sB l).size = n := by rw [sB_size, hn]
 have HL := Lib.hid hl
 clear hn hl
 go_enter Tryz.func120, Tryz.ntmps120
 go_wp2_with fail
 go_loopw [3, 4] (fun x i wr => ∃ c : Nat, c ≤ n ∧ x = .int .u64 (deN (l.take c) : Int) ∧ i = .int .i64 (c : Int) ∧ At w0 F wr) (fun _ i _ => n - (intOf i).toNat)
 case atStart => exact ⟨0, by omega, rfl, rfl, H⟩
 case round =>
  clear H
  obtain ⟨c, hcn, rfl, rfl, H⟩ := hrel
  by_cases hc : c < n
  · have hlt : (c : Int) < (n : Int) := by omega
    have ew : IntKind.i64.wrap ((c : Int) + 1) = (c : Int) + 1 := by rw [IntKind.wrap_i64]; have := HL.out; have := HN.out; omega
    obtain ⟨b, m2, m3, hb, hm3, q1, q2, q3, q4, q5⟩ := number_facts l c HL.out (by rw [← HN.out]; exact hc)
    have HB := Lib.hid hb
    have HM := Lib.hid hm3
    clear hb hm3
    go_wp2_with ((with_reducible refine wpList_op rfl ?_); intro _ hK; first
     | (refine dst_is 15 rfl ?_; refine wp_run (exec_sidx rfl under_strT rfl rfl HB.out _) (hK _ _ ?_)))
    first
     | (refine ⟨?_, ?measure⟩; iterate 220 (try apply Exists.intro); refine ⟨?rel, rfl⟩)
     | refine ⟨?rel, ?measure⟩
    case rel => exact ⟨c + 1, by omega, by rw [HM.out], by go_num, H⟩
    case measure => simp [intOf]; omega
  · obtain rfl : c = n := by omega
    have hf := Lib.hid (show l.take c = l by rw [HN.out, List.take_length])
    have hlt : ¬ (c : Int) < (c : Int) := by omega
    go_wp2_with fail
    go_ret
    exact ⟨by rw [hf.out]; rfl, H⟩
set_option maxRecDepth 10000 in
set_option maxHeartbeats 1000000 in
theorem RNoughts_c {w0 w : World} {F : List SP} {n : Nat} (H : At w0 F w) (hn : n ≤ 100000) : Calls Tryz.prog 77 #[.int .i64 (n : Int)] w fun r w' => r = .returned (.string (sB (zs n))) ∧ At w0 F w' := by
 have HN := Lib.hid hn
 clear hn
 go_enter Tryz.func77, Tryz.ntmps77
 go_wp2_with fail
 go_loopw [3, 4] (fun x i wr => ∃ c : Nat, c ≤ n ∧ x = .string (sB (zs c)) ∧ i = .int .i64 (c : Int) ∧ At w0 F wr) (fun _ i _ => n - (intOf i).toNat)
 case atStart => exact ⟨0, by omega, rfl, rfl, H⟩
 case round =>
  clear H
  obtain ⟨c, hcn, rfl, rfl, H⟩ := hrel
  by_cases hc : c < n
  · have hlt : (c : Int) < (n : Int) := by omega
    have hz := Lib.hid (show zs c ++ [0] = zs (c + 1) by unfold zs; rw [List.replicate_succ'])
    have ew : IntKind.i64.wrap ((c : Int) + 1) = (c : Int) + 1 := by rw [IntKind.wrap_i64]; have := HN.out; omega
    go_wp2_with ((with_reducible refine wpList_op rfl ?_); intro _ hK; (refine wp_sadd _ _ _ _ rfl (u := zs c) (v := [0]) rfl rfl (by rw [zs_length]; simp; have := HN.out; omega) ?_; rw [hz.out]; refine hK _ _ ?_))
    first
     | (refine ⟨?_, ?measure⟩; iterate 220 (try apply Exists.intro); refine ⟨?rel, rfl⟩)
     | refine ⟨?rel, ?measure⟩
    case rel => exact ⟨c + 1, by omega, rfl, by go_num, H⟩
    case measure => simp [intOf]; omega
  · obtain rfl : c = n := by omega
    have hlt : ¬ (c : Int) < (c : Int) := by omega
    go_wp2_with fail
    go_ret
    exact ⟨rfl, H⟩
set_option maxRecDepth 10000 in
set_option maxHeartbeats 1000000 in
theorem RZeros_c {w0 w : World} {F : List SP} {n : Nat} (H : At w0 F w) (hn : n ≤ 100000) : Calls Tryz.prog 109 #[.int .i64 (n : Int)] w fun r w' => r = .returned (.string (sB (zs n))) ∧ At w0 F w' := by
 have HN := Lib.hid hn
 clear hn
 go_enter Tryz.func109, Tryz.ntmps109
 go_wp2_with fail
 go_loopw [3, 4] (fun x i wr => ∃ c : Nat, c ≤ n ∧ x = .string (sB (zs c)) ∧ i = .int .i64 (c : Int) ∧ At w0 F wr) (fun _ i _ => n - (intOf i).toNat)
 case atStart => exact ⟨0, by omega, rfl, rfl, H⟩
 case round =>
  clear H
  obtain ⟨c, hcn, rfl, rfl, H⟩ := hrel
  by_cases hc : c < n
  · have hlt : (c : Int) < (n : Int) := by omega
    have hz := Lib.hid (show zs c ++ [0] = zs (c + 1) by unfold zs; rw [List.replicate_succ'])
    have ew : IntKind.i64.wrap ((c : Int) + 1) = (c : Int) + 1 := by rw [IntKind.wrap_i64]; have := HN.out; omega
    go_wp2_with ((with_reducible refine wpList_op rfl ?_); intro _ hK; (refine wp_sadd _ _ _ _ rfl (u := zs c) (v := [0]) rfl rfl (by rw [zs_length]; simp; have := HN.out; omega) ?_; rw [hz.out]; refine hK _ _ ?_))
    first
     | (refine ⟨?_, ?measure⟩; iterate 220 (try apply Exists.intro); refine ⟨?rel, rfl⟩)
     | refine ⟨?rel, ?measure⟩
    case rel => exact ⟨c + 1, by omega, rfl, by go_num, H⟩
    case measure => simp [intOf]; omega
  · obtain rfl : c = n := by omega
    have hlt : ¬ (c : Int) < (c : Int) := by omega
    go_wp2_with fail
    go_ret
    exact ⟨rfl, H⟩
end Go.Proofs.YtmflbekabkainaaGreatDoor
