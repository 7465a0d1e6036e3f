import Derived.Test.YtmflbekabkainaaGreatDoorQNLawS
import Derived.Test.YtmflbekabkainaaGreatDoorQOnionB
import Derived.Test.YtmflbekabkainaaGreatDoorQROnA
set_option linter.unusedVariables false
set_option linter.unusedSimpArgs false
namespace Go.Proofs.YtmflbekabkainaaGreatDoor
open Go.RowKit Go.Hg
theorem and3 {k : Nat} (hk : k < 256) : bits BinOp.and IntKind.u8 (k : Int) 3 = ((k % 4 : Nat) : Int) := by
 have h := iv_and8 (BitVec.ofNat 8 k) 3
 have h1 : iv (BitVec.ofNat 8 k) = (k : Int) := by
  unfold iv
  rw [BitVec.toNat_ofNat, Nat.mod_eq_of_lt hk]
 have h2 : iv (3 : BitVec 8) = 3 := rfl
 have h3 : iv (BitVec.ofNat 8 k &&& 3) = ((k % 4 : Nat) : Int) := by
  unfold iv
  rw [BitVec.toNat_and, BitVec.toNat_ofNat, Nat.mod_eq_of_lt hk]
  exact congrArg _ (Nat.and_two_pow_sub_one_eq_mod k 2)
 rw [h1, h2, h3] at h
 exact h
theorem info_lkey : (Tryz.prog.info? 41).map (fun i => (i.zero, i.size, i.bytes)) = some (some (.agg (v8 (zs 32)).toArray), 32, 32) := by kernel_rfl
theorem keyN_cells (k : Nat) : (v8 (keyN k)).toArray = #[.int .u8 1, .int .u8 2, .int .u8 ((k % 4 : Nat) : Int), .int .u8 0, .int .u8 0, .int .u8 0, .int .u8 0, .int .u8 0, .int .u8 0, .int .u8 0, .int .u8 0, .int .u8 0, .int .u8 0, .int .u8 0, .int .u8 0, .int .u8 0, .int .u8 0, .int .u8 0, .int .u8 0, .int .u8 0, .int .u8 0, .int .u8 0, .int .u8 0, .int .u8 0, .int .u8 0, .int .u8 0, .int .u8 0, .int .u8 0, .int .u8 0, .int .u8 0, .int .u8 0, .int .u8 0] := by
 have h : iv (BitVec.ofNat 8 (k % 4)) = ((k % 4 : Nat) : Int) := by
  unfold iv
  rw [BitVec.toNat_ofNat, Nat.mod_eq_of_lt (by omega)]
 unfold keyN v8
 rw [List.map_append]
 simp only [List.map_cons, List.map_nil, h]
 rfl
set_option maxRecDepth 10000 in
set_option maxHeartbeats 1000000 in
theorem lkey_c {w0 w : World} {F : List SP} (H : At w0 F w) {k : Nat} (hk : k < 256) : Calls Tryz.prog 16 #[.int .u8 (k : Int)] w fun e w' => e = .returned (.agg (v8 (keyN k)).toArray) ∧ At w0 F w' := by
 have hkl := Lib.hid (keyN_length k)
 have hc := Lib.hid (keyN_cells k)
 obtain ⟨K, hK⟩ : ∃ K, K = keyN k := ⟨_, rfl⟩
 rw [← hK] at hkl hc ⊢
 obtain ⟨x, hx⟩ : ∃ x, x = k % 4 := ⟨_, rfl⟩
 rw [← hx] at hc
 have hb : bits BinOp.and IntKind.u8 (k : Int) 3 = (x : Int) := by rw [hx]; exact and3 hk
 clear hK hx hk
 go_enter Tryz.func16, Tryz.ntmps16
 go_wp2_with ((with_reducible refine wpList_op rfl ?_); intro _ hK; first
  | (refine dst_is 2 rfl ?_; refine wp_alloc_sl 41 rfl info_lkey H (fun X w' (H : At w0 (raw X (v8 (zs 32)).toArray 41 :: _) w') _ => hK _ _ ?_))
  | (refine sto_is 2 rfl ?_; refine wp_sta 41 _ _ rfl (cs := K) rfl (by rw [hc.out]; rfl) (by rw [hkl.out]; exact size_key) 0 H rfl (by rw [hkl.out, zs_length]) (fun w' (H : At w0 (raw X (v8 K).toArray 41 :: _) w') => hK _ _ ?_)))
 exact bodyPost_ret (v := .agg (v8 K).toArray) (results_row rfl _ rfl (at_blk H 0 rfl) (by kernel_rfl) (by rw [v8_length, hkl.out]; exact size_key)) rfl ⟨rfl, H.tail⟩
set_option maxRecDepth 10000 in
set_option maxHeartbeats 1000000 in
theorem lnear_c {now : Nat} (hn : now < 18446744073709551616) {b : Int} (h1 : -128 ≤ b) (h2 : b ≤ 127) (w : World) : Calls Tryz.prog 48 #[.int .u64 (now : Int), .int .i8 b] w fun e w' => e = .returned (.int .u64 (nearN now b : Int)) ∧ w = w' := by
 obtain ⟨r, hr⟩ : ∃ r, r = nearN now b := ⟨_, rfl⟩
 rw [← hr]
 unfold nearN at hr
 by_cases hb : b < 0
 · rw [if_pos hb] at hr
   obtain ⟨d, hd⟩ : ∃ d, d = (-b).toNat := ⟨_, rfl⟩
   rw [← hd] at hr
   obtain ⟨m, hm⟩ : ∃ m, m = min d now := ⟨_, rfl⟩
   rw [← hm] at hr
   have e0 : IntKind.i64.wrap b = b := by rw [IntKind.wrap_i64]; omega
   have e1 : IntKind.i64.wrap (-b) = (d : Int) := by rw [IntKind.wrap_i64]; omega
   have e2 : IntKind.u64.wrap (d : Int) = (d : Int) := by rw [IntKind.wrap_u64]; omega
   have e3 : (if now < d then (now : Int) else (d : Int)) = (m : Int) := by rw [hm]; split <;> omega
   have e4 : IntKind.u64.wrap ((now : Int) - (m : Int)) = (r : Int) := by rw [IntKind.wrap_u64]; omega
   clear hr hd hm h1 h2 hn
   go_enter Tryz.func48, Tryz.ntmps48
   go_wp2
   go_ret
   exact ⟨rfl, rfl⟩
 · rw [if_neg hb] at hr
   obtain ⟨d, hd⟩ : ∃ d, d = b.toNat := ⟨_, rfl⟩
   rw [← hd] at hr
   obtain ⟨c, hc⟩ : ∃ c, c = 18446744073709551615 - now := ⟨_, rfl⟩
   rw [← hc] at hr
   obtain ⟨m, hm⟩ : ∃ m, m = min d c := ⟨_, rfl⟩
   rw [← hm] at hr
   have e1 : IntKind.u64.wrap b = (d : Int) := by rw [IntKind.wrap_u64]; omega
   have e2 : IntKind.u64.wrap (18446744073709551615 - (now : Int)) = (c : Int) := by rw [IntKind.wrap_u64]; omega
   have e3 : (if c < d then (c : Int) else (d : Int)) = (m : Int) := by rw [hm]; split <;> omega
   have e4 : IntKind.u64.wrap ((now : Int) + (m : Int)) = (r : Int) := by rw [IntKind.wrap_u64]; omega
   clear hr hd hm hc h1 h2 hn
   go_enter Tryz.func48, Tryz.ntmps48
   go_wp2
   go_ret
   exact ⟨rfl, rfl⟩
end Go.Proofs.YtmflbekabkainaaGreatDoor
