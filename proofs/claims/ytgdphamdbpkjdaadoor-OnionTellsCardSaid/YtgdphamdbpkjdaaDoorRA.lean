/-
  The references of chapters 1 and 11: numbers as texts, noughts, numbers of texts.
-/
import Derived.Test.YtgdphamdbpkjdaaDoorOctR
import Derived.Test.YtgdphamdbpkjdaaDoorHgC
import Derived.Test.YtgdphamdbpkjdaaDoorHgB
namespace Go.Proofs.YtgdphamdbpkjdaaDoor
open Go.RowKit Go.Hg
set_option linter.unusedSimpArgs false
set_option linter.unusedVariables false
theorem under_strT : Tryd.prog.underlying 9 = some .string := by kernel_rfl
theorem under_bytesT : Tryd.prog.underlying 50 = some (.slice 5) := by kernel_rfl
theorem under_u8T : Tryd.prog.underlying 5 = some (.int .u8) := by kernel_rfl
theorem byte_facts (y : Nat) : ∃ (b : BitVec 8) (z : Nat), b = BitVec.ofNat 8 y ∧ z = y >>> 8 ∧ (y : Int).tmod 256 = iv b ∧ iv b % 256 = iv b ∧ (y : Int).tdiv 256 = (z : Int) := by
  refine ⟨_, _, rfl, rfl, ?_, ?_, ?_⟩
  · rw [Int.tmod_eq_emod_of_nonneg (by omega)]
    unfold iv
    rw [BitVec.toNat_ofNat]
    omega
  · unfold iv
    have := (BitVec.ofNat 8 y).isLt
    omega
  · rw [Int.tdiv_eq_ediv_of_nonneg (by omega), Nat.shiftRight_eq_div_pow]
    omega
set_option maxRecDepth 10000 in
set_option maxHeartbeats 1000000 in
theorem RText_c {w0 w : World} {F : List SP} {n k : Nat} (H : At w0 F w) (hn : n < 18446744073709551616) (hk : k ≤ 16) : Calls Tryd.prog 55 #[.int .u64 (n : Int), .int .i64 (k : Int)] w fun r w' => r = .returned (.string (sB (beN k n))) ∧ At w0 F w' := by
  have HN := Lib.hid hn
  clear hn
  go_enter Tryd.func55, Tryd.ntmps55
  go_wp2_with fail
  go_loopw [0, 5, 6] (fun x s i wr => ∃ (c y : Nat), c ≤ k ∧ y = n >>> (8 * c) ∧ x = .int .u64 (y : Int) ∧ s = .string (sB (beN c n)) ∧ i = .int .i64 (c : Int) ∧ At w0 F wr) (fun _ _ i _ => k - (intOf i).toNat)
  case atStart => exact ⟨0, n, by omega, rfl, rfl, rfl, rfl, H⟩
  case round =>
    clear H
    obtain ⟨c, y, hck, hy, rfl, rfl, rfl, H⟩ := hrel
    by_cases hc : c < k
    · have hlt : (c : Int) < (k : Int) := by omega
      obtain ⟨b, z, hb, hz, q1, q2, q3⟩ := byte_facts y
      have hbe := Lib.hid (show [b] ++ beN c n = beN (c + 1) n by rw [hb, hy]; rfl)
      have hz2 := Lib.hid (show z = n >>> (8 * (c + 1)) by rw [hz, hy, ← Nat.shiftRight_add, Nat.mul_add])
      have hkk := Lib.hid hk
      have q4 : IntKind.u64.wrap (z : Int) = (z : Int) := by
        have h1 : z ≤ n := by rw [hz2.out, Nat.shiftRight_eq_div_pow]; exact Nat.div_le_self _ _
        have h2 := HN.out
        rw [IntKind.wrap_u64]
        omega
      clear hy hb hz
      go_wp2_with ((with_reducible refine wpList_op rfl ?_); intro _ hK; first
        | (refine dst_is 15 rfl ?_; refine wp_lbuild el_u8 50 under_bytesT _ rfl rfl (y := b) rfl (by omega) (by omega) H (fun B w' H => hK _ _ ?_))
        | (refine dst_is 16 rfl ?_; refine wp_run (exec_str_of (bs := [b]) rfl under_bytesT under_u8T under_strT rfl H (see_raw (c := c8) (xs := [b]) (cap := 1) 0 rfl (by simp) rfl)) ?_; replace H := H.tail; refine hK _ _ ?_)
        | (refine dst_is 18 rfl ?_; refine wp_sadd _ _ _ _ rfl (u := [b]) (v := beN c n) rfl rfl (by rw [beN_length]; simp; have := hkk.out; omega) ?_; rw [hbe.out]; refine hK _ _ ?_))
      first
        | (refine ⟨?_, ?measure⟩; iterate 220 (try apply Exists.intro); refine ⟨?rel, rfl⟩)
        | refine ⟨?rel, ?measure⟩
      case rel => exact ⟨c + 1, z, by omega, hz2.out, rfl, rfl, by go_num, H⟩
      case measure => simp [intOf]; omega
    · obtain rfl : c = k := by omega
      go_wp2_with fail
      go_ret
      exact ⟨rfl, H⟩
set_option maxRecDepth 10000 in
set_option maxHeartbeats 1000000 in
theorem RText11_c {w0 w : World} {F : List SP} {n k : Nat} (H : At w0 F w) (hn : n < 18446744073709551616) (hk : k ≤ 16) : Calls Tryd.prog 32 #[.int .u64 (n : Int), .int .i64 (k : Int)] w fun r w' => r = .returned (.string (sB (beN k n))) ∧ At w0 F w' := by
  have HN := Lib.hid hn
  clear hn
  go_enter Tryd.func32, Tryd.ntmps32
  go_wp2_with fail
  go_loopw [0, 5, 6] (fun x s i wr => ∃ (c y : Nat), c ≤ k ∧ y = n >>> (8 * c) ∧ x = .int .u64 (y : Int) ∧ s = .string (sB (beN c n)) ∧ i = .int .i64 (c : Int) ∧ At w0 F wr) (fun _ _ i _ => k - (intOf i).toNat)
  case atStart => exact ⟨0, n, by omega, rfl, rfl, rfl, rfl, H⟩
  case round =>
    clear H
    obtain ⟨c, y, hck, hy, rfl, rfl, rfl, H⟩ := hrel
    by_cases hc : c < k
    · have hlt : (c : Int) < (k : Int) := by omega
      obtain ⟨b, z, hb, hz, q1, q2, q3⟩ := byte_facts y
      have hbe := Lib.hid (show [b] ++ beN c n = beN (c + 1) n by rw [hb, hy]; rfl)
      have hz2 := Lib.hid (show z = n >>> (8 * (c + 1)) by rw [hz, hy, ← Nat.shiftRight_add, Nat.mul_add])
      have hkk := Lib.hid hk
      have q4 : IntKind.u64.wrap (z : Int) = (z : Int) := by
        have h1 : z ≤ n := by rw [hz2.out, Nat.shiftRight_eq_div_pow]; exact Nat.div_le_self _ _
        have h2 := HN.out
        rw [IntKind.wrap_u64]
        omega
      clear hy hb hz
      go_wp2_with ((with_reducible refine wpList_op rfl ?_); intro _ hK; first
        | (refine dst_is 15 rfl ?_; refine wp_lbuild el_u8 50 under_bytesT _ rfl rfl (y := b) rfl (by omega) (by omega) H (fun B w' H => hK _ _ ?_))
        | (refine dst_is 16 rfl ?_; refine wp_run (exec_str_of (bs := [b]) rfl under_bytesT under_u8T under_strT rfl H (see_raw (c := c8) (xs := [b]) (cap := 1) 0 rfl (by simp) rfl)) ?_; replace H := H.tail; refine hK _ _ ?_)
        | (refine dst_is 18 rfl ?_; refine wp_sadd _ _ _ _ rfl (u := [b]) (v := beN c n) rfl rfl (by rw [beN_length]; simp; have := hkk.out; omega) ?_; rw [hbe.out]; refine hK _ _ ?_))
      first
        | (refine ⟨?_, ?measure⟩; iterate 220 (try apply Exists.intro); refine ⟨?rel, rfl⟩)
        | refine ⟨?rel, ?measure⟩
      case rel => exact ⟨c + 1, z, by omega, hz2.out, rfl, rfl, by go_num, H⟩
      case measure => simp [intOf]; omega
    · obtain rfl : c = k := by omega
      go_wp2_with fail
      go_ret
      exact ⟨rfl, H⟩

theorem pow_le32 (k : Nat) (h : k ≤ 32) : (2 : Nat) ^ 32 = 2 ^ k * 2 ^ (32 - k) := by
  rw [← Nat.pow_add]
  congr 1
  omega
theorem rr_toNat (x : BitVec 32) (k : Nat) (h : k < 32) : (rr x k).toNat = (x.toNat % 2 ^ k) * 2 ^ (32 - k) + x.toNat / 2 ^ k := by
  have hx := x.isLt
  unfold rr rl
  rw [show 32 - (32 - k) = k by omega, BitVec.toNat_or, BitVec.toNat_shiftLeft, BitVec.toNat_ushiftRight, Nat.shiftLeft_eq, Nat.shiftRight_eq_div_pow]
  have e : x.toNat * 2 ^ (32 - k) % 2 ^ 32 = (x.toNat % 2 ^ k) * 2 ^ (32 - k) := by
    rw [pow_le32 k (by omega), Nat.mul_mod_mul_right]
  have hd : x.toNat / 2 ^ k < 2 ^ (32 - k) := by
    rw [Nat.div_lt_iff_lt_mul (Nat.two_pow_pos k), Nat.mul_comm, ← pow_le32 k (by omega)]
    exact hx
  rw [e, ← Nat.shiftLeft_eq, ← Nat.shiftLeft_add_eq_or_of_lt hd]
theorem turn_eq (x : BitVec 32) (k : Nat) (h : k < 32) {C C' D : Int} (hC : C = ((2 ^ k : Nat) : Int)) (hC' : C' = ((2 ^ k : Nat) : Int)) (hD : D = ((2 ^ (32 - k) : Nat) : Int)) :
    IntKind.u32.wrap (IntKind.u32.wrap ((iv x).tdiv C) + IntKind.u32.wrap ((iv x).tmod C' * D)) = iv (rr x k) := by
  subst hC hC' hD
  have hx := x.isLt
  have hr := rr_toNat x k h
  have hl := (rr x k).isLt
  have h1 : (iv x).tdiv ((2 ^ k : Nat) : Int) = ((x.toNat / 2 ^ k : Nat) : Int) := by unfold iv; rw [Int.tdiv_eq_ediv_of_nonneg (by omega)]; rfl
  have h2 : (iv x).tmod ((2 ^ k : Nat) : Int) = ((x.toNat % 2 ^ k : Nat) : Int) := by unfold iv; rw [Int.tmod_eq_emod_of_nonneg (by omega)]; rfl
  rw [h1, h2]
  have h3 : ((x.toNat % 2 ^ k : Nat) : Int) * ((2 ^ (32 - k) : Nat) : Int) = (((x.toNat % 2 ^ k) * 2 ^ (32 - k) : Nat) : Int) := by push_cast; rfl
  rw [h3]
  generalize (x.toNat % 2 ^ k) * 2 ^ (32 - k) = A at hr
  generalize x.toNat / 2 ^ k = B at hr
  rw [IntKind.wrap_u32, IntKind.wrap_u32, IntKind.wrap_u32]
  unfold iv
  rw [hr] at hl ⊢
  have e32 : (2 : Nat) ^ 32 = 4294967296 := by decide
  rw [e32] at hl
  omega
set_option maxRecDepth 10000 in
set_option maxHeartbeats 1000000 in
theorem RTurn2_c {w0 w : World} {F : List SP} {x : BitVec 32} (H : At w0 F w) : Calls Tryd.prog 74 #[.int .u32 (iv x), .int .i64 2] w fun r w' => r = .returned (.int .u32 (iv (rr x 2))) ∧ At w0 F w' := by
  go_enter Tryd.func74, Tryd.ntmps74
  go_wp2_with fail
  refine wpM_begin [] ((At w0 F)) [(0, 2), (1, 2), (2, 2), (3, 2), (4, 2), (5, 2), (6, 2), (7, 2), (8, 2), (9, 2), (10, 0)] rfl (by kernel_rfl) (by kernel_rfl) ((H.drew)) ?_
  intro ops hOps hS
  replace H := H.drew
  refine wpM_free hOps rfl (fun _ _ _ h => h) (yl_move rfl _ rfl) ?_
  simp only [nrm]
  refine wpM_free hOps rfl (fun _ _ _ h => h) (yl_move rfl _ rfl) ?_
  simp only [nrm]
  refine wpM_free hOps (v := ?vOp1654) rfl (fun _ _ _ h => h) (yl rfl ?yOp1654) ?_
  case yOp1654 => (intro w hw; go_simp; first | done | rfl)
  simp only [nrm]
  refine wpM_free hOps (v := ?vOp1656) rfl (fun _ _ _ h => h) (yl rfl ?yOp1656) ?_
  case yOp1656 => (intro w hw; go_simp; first | done | rfl)
  simp only [nrm]
  refine wpM_free hOps rfl (fun _ _ _ h => h) (yl_move rfl _ rfl) ?_
  simp only [nrm]
  refine wpM_free hOps rfl (fun _ _ _ h => h) (yl_move rfl _ rfl) ?_
  simp only [nrm]
  refine wpM_free hOps (v := ?vOp1664) rfl (fun _ _ _ h => h) (yl rfl ?yOp1664) ?_
  case yOp1664 => (intro w hw; go_simp; first | done | rfl)
  simp only [nrm]
  refine wpM_free hOps (v := ?vOp1666) rfl (fun _ _ _ h => h) (yl rfl ?yOp1666) ?_
  case yOp1666 => (intro w hw; go_simp; first | done | rfl)
  simp only [nrm]
  refine wpM_free hOps (v := ?vOp1668) rfl (fun _ _ _ h => h) (yl rfl ?yOp1668) ?_
  case yOp1668 => (intro w hw; go_simp; first | done | rfl)
  simp only [nrm]
  refine wpM_free hOps (v := ?vOp1670) rfl (fun _ _ _ h => h) (yl rfl ?yOp1670) ?_
  case yOp1670 => (intro w hw; go_simp; first | done | rfl)
  simp only [nrm]
  refine wpM_next hOps rfl rfl ?_
  intro K hK
  refine wp_run rfl ?_
  have hS := (hS)
  refine hK _ _ (.inr hS) ?_
  clear hK K
  simp only [nrm]
  refine wpM_end ?_
  clear hOps hS ops
  go_wp2_with fail
  go_ret
  exact ⟨congrArg (fun z => Ending.returned (Value.int IntKind.u32 z)) (turn_eq x 2 (by omega) (by decide) (by decide) (by decide)), H⟩
set_option maxRecDepth 10000 in
set_option maxHeartbeats 1000000 in
theorem RTurn6_c {w0 w : World} {F : List SP} {x : BitVec 32} (H : At w0 F w) : Calls Tryd.prog 74 #[.int .u32 (iv x), .int .i64 6] w fun r w' => r = .returned (.int .u32 (iv (rr x 6))) ∧ At w0 F w' := by
  go_enter Tryd.func74, Tryd.ntmps74
  go_wp2_with fail
  refine wpM_begin [] ((At w0 F)) [(0, 2), (1, 2), (2, 2), (3, 2), (4, 2), (5, 2), (6, 2), (7, 2), (8, 2), (9, 2), (10, 0)] rfl (by kernel_rfl) (by kernel_rfl) ((H.drew)) ?_
  intro ops hOps hS
  replace H := H.drew
  refine wpM_free hOps rfl (fun _ _ _ h => h) (yl_move rfl _ rfl) ?_
  simp only [nrm]
  refine wpM_free hOps rfl (fun _ _ _ h => h) (yl_move rfl _ rfl) ?_
  simp only [nrm]
  refine wpM_free hOps (v := ?vOp1683) rfl (fun _ _ _ h => h) (yl rfl ?yOp1683) ?_
  case yOp1683 => (intro w hw; go_simp; first | done | rfl)
  simp only [nrm]
  refine wpM_free hOps (v := ?vOp1685) rfl (fun _ _ _ h => h) (yl rfl ?yOp1685) ?_
  case yOp1685 => (intro w hw; go_simp; first | done | rfl)
  simp only [nrm]
  refine wpM_free hOps rfl (fun _ _ _ h => h) (yl_move rfl _ rfl) ?_
  simp only [nrm]
  refine wpM_free hOps rfl (fun _ _ _ h => h) (yl_move rfl _ rfl) ?_
  simp only [nrm]
  refine wpM_free hOps (v := ?vOp1693) rfl (fun _ _ _ h => h) (yl rfl ?yOp1693) ?_
  case yOp1693 => (intro w hw; go_simp; first | done | rfl)
  simp only [nrm]
  refine wpM_free hOps (v := ?vOp1695) rfl (fun _ _ _ h => h) (yl rfl ?yOp1695) ?_
  case yOp1695 => (intro w hw; go_simp; first | done | rfl)
  simp only [nrm]
  refine wpM_free hOps (v := ?vOp1697) rfl (fun _ _ _ h => h) (yl rfl ?yOp1697) ?_
  case yOp1697 => (intro w hw; go_simp; first | done | rfl)
  simp only [nrm]
  refine wpM_free hOps (v := ?vOp1699) rfl (fun _ _ _ h => h) (yl rfl ?yOp1699) ?_
  case yOp1699 => (intro w hw; go_simp; first | done | rfl)
  simp only [nrm]
  refine wpM_next hOps rfl rfl ?_
  intro K hK
  refine wp_run rfl ?_
  have hS := (hS)
  refine hK _ _ (.inr hS) ?_
  clear hK K
  simp only [nrm]
  refine wpM_end ?_
  clear hOps hS ops
  go_wp2_with fail
  go_ret
  exact ⟨congrArg (fun z => Ending.returned (Value.int IntKind.u32 z)) (turn_eq x 6 (by omega) (by decide) (by decide) (by decide)), H⟩
set_option maxRecDepth 10000 in
set_option maxHeartbeats 1000000 in
theorem RTurn7_c {w0 w : World} {F : List SP} {x : BitVec 32} (H : At w0 F w) : Calls Tryd.prog 74 #[.int .u32 (iv x), .int .i64 7] w fun r w' => r = .returned (.int .u32 (iv (rr x 7))) ∧ At w0 F w' := by
  go_enter Tryd.func74, Tryd.ntmps74
  go_wp2_with fail
  refine wpM_begin [] ((At w0 F)) [(0, 2), (1, 2), (2, 2), (3, 2), (4, 2), (5, 2), (6, 2), (7, 2), (8, 2), (9, 2), (10, 0)] rfl (by kernel_rfl) (by kernel_rfl) ((H.drew)) ?_
  intro ops hOps hS
  replace H := H.drew
  refine wpM_free hOps rfl (fun _ _ _ h => h) (yl_move rfl _ rfl) ?_
  simp only [nrm]
  refine wpM_free hOps rfl (fun _ _ _ h => h) (yl_move rfl _ rfl) ?_
  simp only [nrm]
  refine wpM_free hOps (v := ?vOp1712) rfl (fun _ _ _ h => h) (yl rfl ?yOp1712) ?_
  case yOp1712 => (intro w hw; go_simp; first | done | rfl)
  simp only [nrm]
  refine wpM_free hOps (v := ?vOp1714) rfl (fun _ _ _ h => h) (yl rfl ?yOp1714) ?_
  case yOp1714 => (intro w hw; go_simp; first | done | rfl)
  simp only [nrm]
  refine wpM_free hOps rfl (fun _ _ _ h => h) (yl_move rfl _ rfl) ?_
  simp only [nrm]
  refine wpM_free hOps rfl (fun _ _ _ h => h) (yl_move rfl _ rfl) ?_
  simp only [nrm]
  refine wpM_free hOps (v := ?vOp1722) rfl (fun _ _ _ h => h) (yl rfl ?yOp1722) ?_
  case yOp1722 => (intro w hw; go_simp; first | done | rfl)
  simp only [nrm]
  refine wpM_free hOps (v := ?vOp1724) rfl (fun _ _ _ h => h) (yl rfl ?yOp1724) ?_
  case yOp1724 => (intro w hw; go_simp; first | done | rfl)
  simp only [nrm]
  refine wpM_free hOps (v := ?vOp1726) rfl (fun _ _ _ h => h) (yl rfl ?yOp1726) ?_
  case yOp1726 => (intro w hw; go_simp; first | done | rfl)
  simp only [nrm]
  refine wpM_free hOps (v := ?vOp1728) rfl (fun _ _ _ h => h) (yl rfl ?yOp1728) ?_
  case yOp1728 => (intro w hw; go_simp; first | done | rfl)
  simp only [nrm]
  refine wpM_next hOps rfl rfl ?_
  intro K hK
  refine wp_run rfl ?_
  have hS := (hS)
  refine hK _ _ (.inr hS) ?_
  clear hK K
  simp only [nrm]
  refine wpM_end ?_
  clear hOps hS ops
  go_wp2_with fail
  go_ret
  exact ⟨congrArg (fun z => Ending.returned (Value.int IntKind.u32 z)) (turn_eq x 7 (by omega) (by decide) (by decide) (by decide)), H⟩
set_option maxRecDepth 10000 in
set_option maxHeartbeats 1000000 in
theorem RTurn11_c {w0 w : World} {F : List SP} {x : BitVec 32} (H : At w0 F w) : Calls Tryd.prog 74 #[.int .u32 (iv x), .int .i64 11] w fun r w' => r = .returned (.int .u32 (iv (rr x 11))) ∧ At w0 F w' := by
  go_enter Tryd.func74, Tryd.ntmps74
  go_wp2_with fail
  refine wpM_begin [] ((At w0 F)) [(0, 2), (1, 2), (2, 2), (3, 2), (4, 2), (5, 2), (6, 2), (7, 2), (8, 2), (9, 2), (10, 0)] rfl (by kernel_rfl) (by kernel_rfl) ((H.drew)) ?_
  intro ops hOps hS
  replace H := H.drew
  refine wpM_free hOps rfl (fun _ _ _ h => h) (yl_move rfl _ rfl) ?_
  simp only [nrm]
  refine wpM_free hOps rfl (fun _ _ _ h => h) (yl_move rfl _ rfl) ?_
  simp only [nrm]
  refine wpM_free hOps (v := ?vOp1741) rfl (fun _ _ _ h => h) (yl rfl ?yOp1741) ?_
  case yOp1741 => (intro w hw; go_simp; first | done | rfl)
  simp only [nrm]
  refine wpM_free hOps (v := ?vOp1743) rfl (fun _ _ _ h => h) (yl rfl ?yOp1743) ?_
  case yOp1743 => (intro w hw; go_simp; first | done | rfl)
  simp only [nrm]
  refine wpM_free hOps rfl (fun _ _ _ h => h) (yl_move rfl _ rfl) ?_
  simp only [nrm]
  refine wpM_free hOps rfl (fun _ _ _ h => h) (yl_move rfl _ rfl) ?_
  simp only [nrm]
  refine wpM_free hOps (v := ?vOp1751) rfl (fun _ _ _ h => h) (yl rfl ?yOp1751) ?_
  case yOp1751 => (intro w hw; go_simp; first | done | rfl)
  simp only [nrm]
  refine wpM_free hOps (v := ?vOp1753) rfl (fun _ _ _ h => h) (yl rfl ?yOp1753) ?_
  case yOp1753 => (intro w hw; go_simp; first | done | rfl)
  simp only [nrm]
  refine wpM_free hOps (v := ?vOp1755) rfl (fun _ _ _ h => h) (yl rfl ?yOp1755) ?_
  case yOp1755 => (intro w hw; go_simp; first | done | rfl)
  simp only [nrm]
  refine wpM_free hOps (v := ?vOp1757) rfl (fun _ _ _ h => h) (yl rfl ?yOp1757) ?_
  case yOp1757 => (intro w hw; go_simp; first | done | rfl)
  simp only [nrm]
  refine wpM_next hOps rfl rfl ?_
  intro K hK
  refine wp_run rfl ?_
  have hS := (hS)
  refine hK _ _ (.inr hS) ?_
  clear hK K
  simp only [nrm]
  refine wpM_end ?_
  clear hOps hS ops
  go_wp2_with fail
  go_ret
  exact ⟨congrArg (fun z => Ending.returned (Value.int IntKind.u32 z)) (turn_eq x 11 (by omega) (by decide) (by decide) (by decide)), H⟩
set_option maxRecDepth 10000 in
set_option maxHeartbeats 1000000 in
theorem RTurn13_c {w0 w : World} {F : List SP} {x : BitVec 32} (H : At w0 F w) : Calls Tryd.prog 74 #[.int .u32 (iv x), .int .i64 13] w fun r w' => r = .returned (.int .u32 (iv (rr x 13))) ∧ At w0 F w' := by
  go_enter Tryd.func74, Tryd.ntmps74
  go_wp2_with fail
  refine wpM_begin [] ((At w0 F)) [(0, 2), (1, 2), (2, 2), (3, 2), (4, 2), (5, 2), (6, 2), (7, 2), (8, 2), (9, 2), (10, 0)] rfl (by kernel_rfl) (by kernel_rfl) ((H.drew)) ?_
  intro ops hOps hS
  replace H := H.drew
  refine wpM_free hOps rfl (fun _ _ _ h => h) (yl_move rfl _ rfl) ?_
  simp only [nrm]
  refine wpM_free hOps rfl (fun _ _ _ h => h) (yl_move rfl _ rfl) ?_
  simp only [nrm]
  refine wpM_free hOps (v := ?vOp1770) rfl (fun _ _ _ h => h) (yl rfl ?yOp1770) ?_
  case yOp1770 => (intro w hw; go_simp; first | done | rfl)
  simp only [nrm]
  refine wpM_free hOps (v := ?vOp1772) rfl (fun _ _ _ h => h) (yl rfl ?yOp1772) ?_
  case yOp1772 => (intro w hw; go_simp; first | done | rfl)
  simp only [nrm]
  refine wpM_free hOps rfl (fun _ _ _ h => h) (yl_move rfl _ rfl) ?_
  simp only [nrm]
  refine wpM_free hOps rfl (fun _ _ _ h => h) (yl_move rfl _ rfl) ?_
  simp only [nrm]
  refine wpM_free hOps (v := ?vOp1780) rfl (fun _ _ _ h => h) (yl rfl ?yOp1780) ?_
  case yOp1780 => (intro w hw; go_simp; first | done | rfl)
  simp only [nrm]
  refine wpM_free hOps (v := ?vOp1782) rfl (fun _ _ _ h => h) (yl rfl ?yOp1782) ?_
  case yOp1782 => (intro w hw; go_simp; first | done | rfl)
  simp only [nrm]
  refine wpM_free hOps (v := ?vOp1784) rfl (fun _ _ _ h => h) (yl rfl ?yOp1784) ?_
  case yOp1784 => (intro w hw; go_simp; first | done | rfl)
  simp only [nrm]
  refine wpM_free hOps (v := ?vOp1786) rfl (fun _ _ _ h => h) (yl rfl ?yOp1786) ?_
  case yOp1786 => (intro w hw; go_simp; first | done | rfl)
  simp only [nrm]
  refine wpM_next hOps rfl rfl ?_
  intro K hK
  refine wp_run rfl ?_
  have hS := (hS)
  refine hK _ _ (.inr hS) ?_
  clear hK K
  simp only [nrm]
  refine wpM_end ?_
  clear hOps hS ops
  go_wp2_with fail
  go_ret
  exact ⟨congrArg (fun z => Ending.returned (Value.int IntKind.u32 z)) (turn_eq x 13 (by omega) (by decide) (by decide) (by decide)), H⟩
set_option maxRecDepth 10000 in
set_option maxHeartbeats 1000000 in
theorem RTurn17_c {w0 w : World} {F : List SP} {x : BitVec 32} (H : At w0 F w) : Calls Tryd.prog 74 #[.int .u32 (iv x), .int .i64 17] w fun r w' => r = .returned (.int .u32 (iv (rr x 17))) ∧ At w0 F w' := by
  go_enter Tryd.func74, Tryd.ntmps74
  go_wp2_with fail
  refine wpM_begin [] ((At w0 F)) [(0, 2), (1, 2), (2, 2), (3, 2), (4, 2), (5, 2), (6, 2), (7, 2), (8, 2), (9, 2), (10, 0)] rfl (by kernel_rfl) (by kernel_rfl) ((H.drew)) ?_
  intro ops hOps hS
  replace H := H.drew
  refine wpM_free hOps rfl (fun _ _ _ h => h) (yl_move rfl _ rfl) ?_
  simp only [nrm]
  refine wpM_free hOps rfl (fun _ _ _ h => h) (yl_move rfl _ rfl) ?_
  simp only [nrm]
  refine wpM_free hOps (v := ?vOp1799) rfl (fun _ _ _ h => h) (yl rfl ?yOp1799) ?_
  case yOp1799 => (intro w hw; go_simp; first | done | rfl)
  simp only [nrm]
  refine wpM_free hOps (v := ?vOp1801) rfl (fun _ _ _ h => h) (yl rfl ?yOp1801) ?_
  case yOp1801 => (intro w hw; go_simp; first | done | rfl)
  simp only [nrm]
  refine wpM_free hOps rfl (fun _ _ _ h => h) (yl_move rfl _ rfl) ?_
  simp only [nrm]
  refine wpM_free hOps rfl (fun _ _ _ h => h) (yl_move rfl _ rfl) ?_
  simp only [nrm]
  refine wpM_free hOps (v := ?vOp1809) rfl (fun _ _ _ h => h) (yl rfl ?yOp1809) ?_
  case yOp1809 => (intro w hw; go_simp; first | done | rfl)
  simp only [nrm]
  refine wpM_free hOps (v := ?vOp1811) rfl (fun _ _ _ h => h) (yl rfl ?yOp1811) ?_
  case yOp1811 => (intro w hw; go_simp; first | done | rfl)
  simp only [nrm]
  refine wpM_free hOps (v := ?vOp1813) rfl (fun _ _ _ h => h) (yl rfl ?yOp1813) ?_
  case yOp1813 => (intro w hw; go_simp; first | done | rfl)
  simp only [nrm]
  refine wpM_free hOps (v := ?vOp1815) rfl (fun _ _ _ h => h) (yl rfl ?yOp1815) ?_
  case yOp1815 => (intro w hw; go_simp; first | done | rfl)
  simp only [nrm]
  refine wpM_next hOps rfl rfl ?_
  intro K hK
  refine wp_run rfl ?_
  have hS := (hS)
  refine hK _ _ (.inr hS) ?_
  clear hK K
  simp only [nrm]
  refine wpM_end ?_
  clear hOps hS ops
  go_wp2_with fail
  go_ret
  exact ⟨congrArg (fun z => Ending.returned (Value.int IntKind.u32 z)) (turn_eq x 17 (by omega) (by decide) (by decide) (by decide)), H⟩
set_option maxRecDepth 10000 in
set_option maxHeartbeats 1000000 in
theorem RTurn18_c {w0 w : World} {F : List SP} {x : BitVec 32} (H : At w0 F w) : Calls Tryd.prog 74 #[.int .u32 (iv x), .int .i64 18] w fun r w' => r = .returned (.int .u32 (iv (rr x 18))) ∧ At w0 F w' := by
  go_enter Tryd.func74, Tryd.ntmps74
  go_wp2_with fail
  refine wpM_begin [] ((At w0 F)) [(0, 2), (1, 2), (2, 2), (3, 2), (4, 2), (5, 2), (6, 2), (7, 2), (8, 2), (9, 2), (10, 0)] rfl (by kernel_rfl) (by kernel_rfl) ((H.drew)) ?_
  intro ops hOps hS
  replace H := H.drew
  refine wpM_free hOps rfl (fun _ _ _ h => h) (yl_move rfl _ rfl) ?_
  simp only [nrm]
  refine wpM_free hOps rfl (fun _ _ _ h => h) (yl_move rfl _ rfl) ?_
  simp only [nrm]
  refine wpM_free hOps (v := ?vOp1828) rfl (fun _ _ _ h => h) (yl rfl ?yOp1828) ?_
  case yOp1828 => (intro w hw; go_simp; first | done | rfl)
  simp only [nrm]
  refine wpM_free hOps (v := ?vOp1830) rfl (fun _ _ _ h => h) (yl rfl ?yOp1830) ?_
  case yOp1830 => (intro w hw; go_simp; first | done | rfl)
  simp only [nrm]
  refine wpM_free hOps rfl (fun _ _ _ h => h) (yl_move rfl _ rfl) ?_
  simp only [nrm]
  refine wpM_free hOps rfl (fun _ _ _ h => h) (yl_move rfl _ rfl) ?_
  simp only [nrm]
  refine wpM_free hOps (v := ?vOp1838) rfl (fun _ _ _ h => h) (yl rfl ?yOp1838) ?_
  case yOp1838 => (intro w hw; go_simp; first | done | rfl)
  simp only [nrm]
  refine wpM_free hOps (v := ?vOp1840) rfl (fun _ _ _ h => h) (yl rfl ?yOp1840) ?_
  case yOp1840 => (intro w hw; go_simp; first | done | rfl)
  simp only [nrm]
  refine wpM_free hOps (v := ?vOp1842) rfl (fun _ _ _ h => h) (yl rfl ?yOp1842) ?_
  case yOp1842 => (intro w hw; go_simp; first | done | rfl)
  simp only [nrm]
  refine wpM_free hOps (v := ?vOp1844) rfl (fun _ _ _ h => h) (yl rfl ?yOp1844) ?_
  case yOp1844 => (intro w hw; go_simp; first | done | rfl)
  simp only [nrm]
  refine wpM_next hOps rfl rfl ?_
  intro K hK
  refine wp_run rfl ?_
  have hS := (hS)
  refine hK _ _ (.inr hS) ?_
  clear hK K
  simp only [nrm]
  refine wpM_end ?_
  clear hOps hS ops
  go_wp2_with fail
  go_ret
  exact ⟨congrArg (fun z => Ending.returned (Value.int IntKind.u32 z)) (turn_eq x 18 (by omega) (by decide) (by decide) (by decide)), H⟩
set_option maxRecDepth 10000 in
set_option maxHeartbeats 1000000 in
theorem RTurn19_c {w0 w : World} {F : List SP} {x : BitVec 32} (H : At w0 F w) : Calls Tryd.prog 74 #[.int .u32 (iv x), .int .i64 19] w fun r w' => r = .returned (.int .u32 (iv (rr x 19))) ∧ At w0 F w' := by
  go_enter Tryd.func74, Tryd.ntmps74
  go_wp2_with fail
  refine wpM_begin [] ((At w0 F)) [(0, 2), (1, 2), (2, 2), (3, 2), (4, 2), (5, 2), (6, 2), (7, 2), (8, 2), (9, 2), (10, 0)] rfl (by kernel_rfl) (by kernel_rfl) ((H.drew)) ?_
  intro ops hOps hS
  replace H := H.drew
  refine wpM_free hOps rfl (fun _ _ _ h => h) (yl_move rfl _ rfl) ?_
  simp only [nrm]
  refine wpM_free hOps rfl (fun _ _ _ h => h) (yl_move rfl _ rfl) ?_
  simp only [nrm]
  refine wpM_free hOps (v := ?vOp1857) rfl (fun _ _ _ h => h) (yl rfl ?yOp1857) ?_
  case yOp1857 => (intro w hw; go_simp; first | done | rfl)
  simp only [nrm]
  refine wpM_free hOps (v := ?vOp1859) rfl (fun _ _ _ h => h) (yl rfl ?yOp1859) ?_
  case yOp1859 => (intro w hw; go_simp; first | done | rfl)
  simp only [nrm]
  refine wpM_free hOps rfl (fun _ _ _ h => h) (yl_move rfl _ rfl) ?_
  simp only [nrm]
  refine wpM_free hOps rfl (fun _ _ _ h => h) (yl_move rfl _ rfl) ?_
  simp only [nrm]
  refine wpM_free hOps (v := ?vOp1867) rfl (fun _ _ _ h => h) (yl rfl ?yOp1867) ?_
  case yOp1867 => (intro w hw; go_simp; first | done | rfl)
  simp only [nrm]
  refine wpM_free hOps (v := ?vOp1869) rfl (fun _ _ _ h => h) (yl rfl ?yOp1869) ?_
  case yOp1869 => (intro w hw; go_simp; first | done | rfl)
  simp only [nrm]
  refine wpM_free hOps (v := ?vOp1871) rfl (fun _ _ _ h => h) (yl rfl ?yOp1871) ?_
  case yOp1871 => (intro w hw; go_simp; first | done | rfl)
  simp only [nrm]
  refine wpM_free hOps (v := ?vOp1873) rfl (fun _ _ _ h => h) (yl rfl ?yOp1873) ?_
  case yOp1873 => (intro w hw; go_simp; first | done | rfl)
  simp only [nrm]
  refine wpM_next hOps rfl rfl ?_
  intro K hK
  refine wp_run rfl ?_
  have hS := (hS)
  refine hK _ _ (.inr hS) ?_
  clear hK K
  simp only [nrm]
  refine wpM_end ?_
  clear hOps hS ops
  go_wp2_with fail
  go_ret
  exact ⟨congrArg (fun z => Ending.returned (Value.int IntKind.u32 z)) (turn_eq x 19 (by omega) (by decide) (by decide) (by decide)), H⟩
set_option maxRecDepth 10000 in
set_option maxHeartbeats 1000000 in
theorem RTurn22_c {w0 w : World} {F : List SP} {x : BitVec 32} (H : At w0 F w) : Calls Tryd.prog 74 #[.int .u32 (iv x), .int .i64 22] w fun r w' => r = .returned (.int .u32 (iv (rr x 22))) ∧ At w0 F w' := by
  go_enter Tryd.func74, Tryd.ntmps74
  go_wp2_with fail
  refine wpM_begin [] ((At w0 F)) [(0, 2), (1, 2), (2, 2), (3, 2), (4, 2), (5, 2), (6, 2), (7, 2), (8, 2), (9, 2), (10, 0)] rfl (by kernel_rfl) (by kernel_rfl) ((H.drew)) ?_
  intro ops hOps hS
  replace H := H.drew
  refine wpM_free hOps rfl (fun _ _ _ h => h) (yl_move rfl _ rfl) ?_
  simp only [nrm]
  refine wpM_free hOps rfl (fun _ _ _ h => h) (yl_move rfl _ rfl) ?_
  simp only [nrm]
  refine wpM_free hOps (v := ?vOp1886) rfl (fun _ _ _ h => h) (yl rfl ?yOp1886) ?_
  case yOp1886 => (intro w hw; go_simp; first | done | rfl)
  simp only [nrm]
  refine wpM_free hOps (v := ?vOp1888) rfl (fun _ _ _ h => h) (yl rfl ?yOp1888) ?_
  case yOp1888 => (intro w hw; go_simp; first | done | rfl)
  simp only [nrm]
  refine wpM_free hOps rfl (fun _ _ _ h => h) (yl_move rfl _ rfl) ?_
  simp only [nrm]
  refine wpM_free hOps rfl (fun _ _ _ h => h) (yl_move rfl _ rfl) ?_
  simp only [nrm]
  refine wpM_free hOps (v := ?vOp1896) rfl (fun _ _ _ h => h) (yl rfl ?yOp1896) ?_
  case yOp1896 => (intro w hw; go_simp; first | done | rfl)
  simp only [nrm]
  refine wpM_free hOps (v := ?vOp1898) rfl (fun _ _ _ h => h) (yl rfl ?yOp1898) ?_
  case yOp1898 => (intro w hw; go_simp; first | done | rfl)
  simp only [nrm]
  refine wpM_free hOps (v := ?vOp1900) rfl (fun _ _ _ h => h) (yl rfl ?yOp1900) ?_
  case yOp1900 => (intro w hw; go_simp; first | done | rfl)
  simp only [nrm]
  refine wpM_free hOps (v := ?vOp1902) rfl (fun _ _ _ h => h) (yl rfl ?yOp1902) ?_
  case yOp1902 => (intro w hw; go_simp; first | done | rfl)
  simp only [nrm]
  refine wpM_next hOps rfl rfl ?_
  intro K hK
  refine wp_run rfl ?_
  have hS := (hS)
  refine hK _ _ (.inr hS) ?_
  clear hK K
  simp only [nrm]
  refine wpM_end ?_
  clear hOps hS ops
  go_wp2_with fail
  go_ret
  exact ⟨congrArg (fun z => Ending.returned (Value.int IntKind.u32 z)) (turn_eq x 22 (by omega) (by decide) (by decide) (by decide)), H⟩
set_option maxRecDepth 10000 in
set_option maxHeartbeats 1000000 in
theorem RTurn25_c {w0 w : World} {F : List SP} {x : BitVec 32} (H : At w0 F w) : Calls Tryd.prog 74 #[.int .u32 (iv x), .int .i64 25] w fun r w' => r = .returned (.int .u32 (iv (rr x 25))) ∧ At w0 F w' := by
  go_enter Tryd.func74, Tryd.ntmps74
  go_wp2_with fail
  refine wpM_begin [] ((At w0 F)) [(0, 2), (1, 2), (2, 2), (3, 2), (4, 2), (5, 2), (6, 2), (7, 2), (8, 2), (9, 2), (10, 0)] rfl (by kernel_rfl) (by kernel_rfl) ((H.drew)) ?_
  intro ops hOps hS
  replace H := H.drew
  refine wpM_free hOps rfl (fun _ _ _ h => h) (yl_move rfl _ rfl) ?_
  simp only [nrm]
  refine wpM_free hOps rfl (fun _ _ _ h => h) (yl_move rfl _ rfl) ?_
  simp only [nrm]
  refine wpM_free hOps (v := ?vOp1915) rfl (fun _ _ _ h => h) (yl rfl ?yOp1915) ?_
  case yOp1915 => (intro w hw; go_simp; first | done | rfl)
  simp only [nrm]
  refine wpM_free hOps (v := ?vOp1917) rfl (fun _ _ _ h => h) (yl rfl ?yOp1917) ?_
  case yOp1917 => (intro w hw; go_simp; first | done | rfl)
  simp only [nrm]
  refine wpM_free hOps rfl (fun _ _ _ h => h) (yl_move rfl _ rfl) ?_
  simp only [nrm]
  refine wpM_free hOps rfl (fun _ _ _ h => h) (yl_move rfl _ rfl) ?_
  simp only [nrm]
  refine wpM_free hOps (v := ?vOp1925) rfl (fun _ _ _ h => h) (yl rfl ?yOp1925) ?_
  case yOp1925 => (intro w hw; go_simp; first | done | rfl)
  simp only [nrm]
  refine wpM_free hOps (v := ?vOp1927) rfl (fun _ _ _ h => h) (yl rfl ?yOp1927) ?_
  case yOp1927 => (intro w hw; go_simp; first | done | rfl)
  simp only [nrm]
  refine wpM_free hOps (v := ?vOp1929) rfl (fun _ _ _ h => h) (yl rfl ?yOp1929) ?_
  case yOp1929 => (intro w hw; go_simp; first | done | rfl)
  simp only [nrm]
  refine wpM_free hOps (v := ?vOp1931) rfl (fun _ _ _ h => h) (yl rfl ?yOp1931) ?_
  case yOp1931 => (intro w hw; go_simp; first | done | rfl)
  simp only [nrm]
  refine wpM_next hOps rfl rfl ?_
  intro K hK
  refine wp_run rfl ?_
  have hS := (hS)
  refine hK _ _ (.inr hS) ?_
  clear hK K
  simp only [nrm]
  refine wpM_end ?_
  clear hOps hS ops
  go_wp2_with fail
  go_ret
  exact ⟨congrArg (fun z => Ending.returned (Value.int IntKind.u32 z)) (turn_eq x 25 (by omega) (by decide) (by decide) (by decide)), H⟩
theorem el_u32i : El Tryd.prog 30 1 4 (ic .u32) := ⟨⟨.int .u32 0, by kernel_rfl, rfl⟩, fun _ => rfl, fun x u hu => by simp [ic] at hu; subst hu; rfl⟩
theorem under_u32s : Tryd.prog.underlying 134 = some (.slice 30) := by kernel_rfl
theorem map_iv_get {l : List (BitVec 32)} {i : Nat} (h : i < l.length) : (l.map fun b => iv b)[i]? = some (iv (gw l i)) := by rw [List.getElem?_map, gw_get h]; rfl
set_option maxRecDepth 10000 in
set_option maxHeartbeats 1000000 in
theorem RK_c {w0 w : World} {F : List SP} {i : Nat} (H : At w0 F w) (hi : i < 64) : Calls Tryd.prog 75 #[.int .i64 (i : Int)] w fun r w' => r = .returned (.int .u32 (iv (gw K0 i))) ∧ At w0 F w' := by
  have hi2 : (i : Int) < 64 := by omega
  have HI := Lib.hid (map_iv_get (l := K0) (i := i) hi)
  obtain ⟨Z, hZ⟩ : ∃ Z, Z = iv (gw K0 i) := ⟨_, rfl⟩
  rw [← hZ] at HI ⊢
  clear hZ
  go_enter Tryd.func75, Tryd.ntmps75
  go_wp2_with ((with_reducible refine wpList_op rfl ?_); intro _ hK; first
    | (refine dst_is 4 rfl ?_; refine wp_lits el_u32i 134 under_u32s _ _ rfl (K0.map fun b => iv b) rfl (by decide) (by decide) (by kernel_rfl) H (fun B w' H => hK _ _ (Stop.go ?_))))
  refine Stop.un ?_
  go_wp2_with ((with_reducible refine wpList_op rfl ?_); intro _ hK; first
    | (refine dst_is 8 rfl ?_; refine wp_get 30 _ rfl rfl (by kernel_rfl) (v := .int .u32 Z) (by simpa using lrow_cell (c := ic .u32) (j := 0) (x := Z) (v := .int .u32 Z) el_u32i H 0 rfl HI.out rfl) (hK _ _ ?_)))
  go_ret
  exact ⟨rfl, H.tail⟩
set_option maxRecDepth 10000 in
set_option maxHeartbeats 1000000 in
theorem RH_c {w0 w : World} {F : List SP} {i : Nat} (H : At w0 F w) (hi : i < 8) : Calls Tryd.prog 73 #[.int .i64 (i : Int)] w fun r w' => r = .returned (.int .u32 (iv (gw H0 i))) ∧ At w0 F w' := by
  have hi2 : (i : Int) < 8 := by omega
  have HI := Lib.hid (map_iv_get (l := H0) (i := i) hi)
  obtain ⟨Z, hZ⟩ : ∃ Z, Z = iv (gw H0 i) := ⟨_, rfl⟩
  rw [← hZ] at HI ⊢
  clear hZ
  go_enter Tryd.func73, Tryd.ntmps73
  go_wp2_with ((with_reducible refine wpList_op rfl ?_); intro _ hK; first
    | (refine dst_is 4 rfl ?_; refine wp_lits el_u32i 134 under_u32s _ _ rfl (H0.map fun b => iv b) rfl (by decide) (by decide) (by kernel_rfl) H (fun B w' H => hK _ _ (Stop.go ?_))))
  refine Stop.un ?_
  go_wp2_with ((with_reducible refine wpList_op rfl ?_); intro _ hK; first
    | (refine dst_is 8 rfl ?_; refine wp_get 30 _ rfl rfl (by kernel_rfl) (v := .int .u32 Z) (by simpa using lrow_cell (c := ic .u32) (j := 0) (x := Z) (v := .int .u32 Z) el_u32i H 0 rfl HI.out rfl) (hK _ _ ?_)))
  go_ret
  exact ⟨rfl, H.tail⟩

theorem number_facts (l : List (BitVec 8)) (c : Nat) (hl : l.length ≤ 8) (hc : c < l.length) : ∃ (b : BitVec 8) (m2 m3 : Nat), l[c]? = some b ∧ m3 = deN (l.take (c + 1)) ∧ (deN (l.take c) : Int) * 256 = (m2 : Int) ∧ IntKind.u64.wrap (m2 : Int) = m2 ∧ IntKind.u64.wrap (iv b) = iv b ∧ (m2 : Int) + iv b = (m3 : Int) ∧ IntKind.u64.wrap (m3 : Int) = m3 := by
  have e : l.take (c + 1) = l.take c ++ [gb l c] := by rw [List.take_add_one, gb_get hc]; rfl
  have hlt := deN_lt (l.take (c + 1))
  have hp : (256 : Nat) ^ (l.take (c + 1)).length ≤ 256 ^ 8 := Nat.pow_le_pow_right (by omega) (by rw [List.length_take]; omega)
  have h8 : (256 : Nat) ^ 8 = 18446744073709551616 := by decide
  have hb := (gb l c).isLt
  have hs := deN_snoc (l.take c) (gb l c)
  rw [← e] at hs
  refine ⟨gb l c, deN (l.take c) * 256, deN (l.take (c + 1)), gb_get hc, rfl, (Int.natCast_mul _ _).symm, ?_, ?_, ?_, ?_⟩
  · rw [IntKind.wrap_u64]; omega
  · rw [IntKind.wrap_u64]; unfold iv; omega
  · unfold iv; omega
  · rw [IntKind.wrap_u64]; omega
set_option maxRecDepth 10000 in
set_option maxHeartbeats 1000000 in
theorem RNumber_c {w0 w : World} {F : List SP} {l : List (BitVec 8)} (H : At w0 F w) (hl : l.length ≤ 8) : Calls Tryd.prog 57 #[.string (sB l)] w fun r w' => r = .returned (.int .u64 (deN l : Int)) ∧ At w0 F w' := by
  obtain ⟨n, hn⟩ : ∃ n, n = l.length := ⟨_, rfl⟩
  have HN := Lib.hid hn
  have hsz : (sB l).size = n := by rw [sB_size, hn]
  have HL := Lib.hid hl
  clear hn hl
  go_enter Tryd.func57, Tryd.ntmps57
  go_wp2_with fail
  go_loopw [3, 4] (fun x i wr => ∃ c : Nat, c ≤ n ∧ x = .int .u64 (deN (l.take c) : Int) ∧ i = .int .i64 (c : Int) ∧ At w0 F wr) (fun _ i _ => n - (intOf i).toNat)
  case atStart => exact ⟨0, by omega, rfl, rfl, H⟩
  case round =>
    clear H
    obtain ⟨c, hcn, rfl, rfl, H⟩ := hrel
    by_cases hc : c < n
    · have hlt : (c : Int) < (n : Int) := by omega
      have ew : IntKind.i64.wrap ((c : Int) + 1) = (c : Int) + 1 := by rw [IntKind.wrap_i64]; have := HL.out; have := HN.out; omega
      obtain ⟨b, m2, m3, hb, hm3, q1, q2, q3, q4, q5⟩ := number_facts l c HL.out (by rw [← HN.out]; exact hc)
      have HB := Lib.hid hb
      have HM := Lib.hid hm3
      clear hb hm3
      go_wp2_with ((with_reducible refine wpList_op rfl ?_); intro _ hK; first
        | (refine dst_is 15 rfl ?_; refine wp_run (exec_sidx rfl under_strT rfl rfl HB.out _) (hK _ _ ?_)))
      first
        | (refine ⟨?_, ?measure⟩; iterate 220 (try apply Exists.intro); refine ⟨?rel, rfl⟩)
        | refine ⟨?rel, ?measure⟩
      case rel => exact ⟨c + 1, by omega, by rw [HM.out], by go_num, H⟩
      case measure => simp [intOf]; omega
    · obtain rfl : c = n := by omega
      have hf := Lib.hid (show l.take c = l by rw [HN.out, List.take_length])
      have hlt : ¬ (c : Int) < (c : Int) := by omega
      go_wp2_with fail
      go_ret
      exact ⟨by rw [hf.out]; rfl, H⟩
set_option maxRecDepth 10000 in
set_option maxHeartbeats 1000000 in
theorem RNoughts_c {w0 w : World} {F : List SP} {n : Nat} (H : At w0 F w) (hn : n ≤ 100000) : Calls Tryd.prog 33 #[.int .i64 (n : Int)] w fun r w' => r = .returned (.string (sB (zs n))) ∧ At w0 F w' := by
  have HN := Lib.hid hn
  clear hn
  go_enter Tryd.func33, Tryd.ntmps33
  go_wp2_with fail
  go_loopw [3, 4] (fun x i wr => ∃ c : Nat, c ≤ n ∧ x = .string (sB (zs c)) ∧ i = .int .i64 (c : Int) ∧ At w0 F wr) (fun _ i _ => n - (intOf i).toNat)
  case atStart => exact ⟨0, by omega, rfl, rfl, H⟩
  case round =>
    clear H
    obtain ⟨c, hcn, rfl, rfl, H⟩ := hrel
    by_cases hc : c < n
    · have hlt : (c : Int) < (n : Int) := by omega
      have hz := Lib.hid (show zs c ++ [0] = zs (c + 1) by unfold zs; rw [List.replicate_succ'])
      have ew : IntKind.i64.wrap ((c : Int) + 1) = (c : Int) + 1 := by rw [IntKind.wrap_i64]; have := HN.out; omega
      go_wp2_with ((with_reducible refine wpList_op rfl ?_); intro _ hK; (refine wp_sadd _ _ _ _ rfl (u := zs c) (v := [0]) rfl rfl (by rw [zs_length]; simp; have := HN.out; omega) ?_; rw [hz.out]; refine hK _ _ ?_))
      first
        | (refine ⟨?_, ?measure⟩; iterate 220 (try apply Exists.intro); refine ⟨?rel, rfl⟩)
        | refine ⟨?rel, ?measure⟩
      case rel => exact ⟨c + 1, by omega, rfl, by go_num, H⟩
      case measure => simp [intOf]; omega
    · obtain rfl : c = n := by omega
      have hlt : ¬ (c : Int) < (c : Int) := by omega
      go_wp2_with fail
      go_ret
      exact ⟨rfl, H⟩
set_option maxRecDepth 10000 in
set_option maxHeartbeats 1000000 in
theorem RZeros_c {w0 w : World} {F : List SP} {n : Nat} (H : At w0 F w) (hn : n ≤ 100000) : Calls Tryd.prog 56 #[.int .i64 (n : Int)] w fun r w' => r = .returned (.string (sB (zs n))) ∧ At w0 F w' := by
  have HN := Lib.hid hn
  clear hn
  go_enter Tryd.func56, Tryd.ntmps56
  go_wp2_with fail
  go_loopw [3, 4] (fun x i wr => ∃ c : Nat, c ≤ n ∧ x = .string (sB (zs c)) ∧ i = .int .i64 (c : Int) ∧ At w0 F wr) (fun _ i _ => n - (intOf i).toNat)
  case atStart => exact ⟨0, by omega, rfl, rfl, H⟩
  case round =>
    clear H
    obtain ⟨c, hcn, rfl, rfl, H⟩ := hrel
    by_cases hc : c < n
    · have hlt : (c : Int) < (n : Int) := by omega
      have hz := Lib.hid (show zs c ++ [0] = zs (c + 1) by unfold zs; rw [List.replicate_succ'])
      have ew : IntKind.i64.wrap ((c : Int) + 1) = (c : Int) + 1 := by rw [IntKind.wrap_i64]; have := HN.out; omega
      go_wp2_with ((with_reducible refine wpList_op rfl ?_); intro _ hK; (refine wp_sadd _ _ _ _ rfl (u := zs c) (v := [0]) rfl rfl (by rw [zs_length]; simp; have := HN.out; omega) ?_; rw [hz.out]; refine hK _ _ ?_))
      first
        | (refine ⟨?_, ?measure⟩; iterate 220 (try apply Exists.intro); refine ⟨?rel, rfl⟩)
        | refine ⟨?rel, ?measure⟩
      case rel => exact ⟨c + 1, by omega, rfl, by go_num, H⟩
      case measure => simp [intOf]; omega
    · obtain rfl : c = n := by omega
      have hlt : ¬ (c : Int) < (c : Int) := by omega
      go_wp2_with fail
      go_ret
      exact ⟨rfl, H⟩
end Go.Proofs.YtgdphamdbpkjdaaDoor
