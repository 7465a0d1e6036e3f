import Derived.Test.YtmflbekabkainaaGreatDoorQSlotB
set_option linter.unusedVariables false
set_option linter.unusedSimpArgs false
namespace Go.Proofs.YtmflbekabkainaaGreatDoor
open Go.RowKit Go.Hg
theorem flat_b64 : flatK Tryz.prog 4 200 = some (List.replicate 64 (.i .u8)) := by kernel_rfl
theorem cells_b64 : Tryz.prog.cellsOf 200 = (List.replicate 64 (LK.i .u8)).length := by kernel_rfl
theorem key_b64 : Tryz.prog.keyTypeAt 4 200 = true := by kernel_rfl
theorem guard_b64 : Tryz.prog.eqGuardType Tryz.prog.depth 200 = false := by kernel_rfl
theorem row_b64 : (match Tryz.prog.underlying 200 with | some (.struct _) => true | some (.array _ _) => true | _ => false) = true := by kernel_rfl
theorem eqB_v8 (a b : List (BitVec 8)) : eqB (v8 a) (v8 b) = decide (a = b) := by
 rw [Bool.eq_iff_iff, eqB_iff, decide_eq_true_iff]
 exact ⟨fun h => SlotD.v8_inj h, fun h => by rw [h]⟩
def DecS (b : List (BitVec 8)) : SlotD := (SlotD.dec b).getD SlotD.zero
def DecE (b : List (BitVec 8)) : Int := if (SlotD.dec b).isSome then 0 else 3
set_option maxRecDepth 10000 in
set_option maxHeartbeats 2000000 in
theorem decode_c {w0 w : World} {F : List SP} {b : List (BitVec 8)} (H : At w0 F w) (hb : b.length = 64) :
    Calls Tryz.prog 93 #[.agg (v8 b).toArray] w fun e w' => e = .returned (.tuple #[.agg (DecS b).cells.toArray, .int .i64 (DecE b)]) ∧ At w0 F w' := by
 have HB := Lib.hid hb
 have hok := Lib.hid (SlotD.readD_ok hb)
 obtain ⟨T, hT⟩ : ∃ T, T = SlotD.readD b := ⟨_, rfl⟩
 rw [← hT] at hok
 have HT := Lib.hid hT
 have hT40 := Lib.hid (SlotD.cells_length hok.out.nonce hok.out.mac)
 have hd : SlotD.dec b = if T.right ∧ T.bytes = b then some T else none := by rw [hT]; rfl
 cases hr : T.right with
 | false =>
  have h1 : DecS b = SlotD.zero := by unfold DecS; rw [hd, hr]; simp
  have h2 : DecE b = 3 := by unfold DecE; rw [hd, hr]; simp
  rw [h1, h2]
  have HR := Lib.hid hr
  clear hb hT hd hr h1 h2
  go_enter Tryz.func93, Tryz.ntmps93
  go_wp2_with ((with_reducible refine wpList_op rfl ?_); intro _ hK; first
   | (refine wp_box_sl (v := .agg (v8 b).toArray) 200 _ rfl rfl H (fun A w' (H : At w0 (raw A (v8 b).toArray 200 :: F) w') _ => hK _ _ ?_))
   | (refine wp_alloc_sl 60 rfl info_slot H (fun O w' (H : At w0 (raw O SlotD.zero.cells.toArray 60 :: raw A (v8 b).toArray 200 :: F) w') _ => hK _ _ ?_)))
  refine (sread_c H (see_blk 1 rfl HB.out.symm) HB.out).mono ?_; rintro e w' ⟨rfl, H⟩
  rw [← HT.out]
  go_wp2_with ((with_reducible refine wpList_op rfl ?_); intro _ hK; first
   | (refine wp_alloc_sl 60 rfl info_slot H (fun S w' (H : At w0 (raw S SlotD.zero.cells.toArray 60 :: raw O SlotD.zero.cells.toArray 60 :: raw A (v8 b).toArray 200 :: F) w') _ => hK _ _ ?_))
   | (refine wp_store_row_sl 60 _ _ rfl (cells := T.cells.toArray) rfl rfl (by rw [List.size_toArray, hT40.out]; exact size_slot) (by simpa using SlotD.cells_one) 0 H rfl (by rw [List.size_toArray, List.size_toArray, hT40.out]; rfl) (fun w' (H : At w0 (raw S T.cells.toArray 60 :: raw O SlotD.zero.cells.toArray 60 :: raw A (v8 b).toArray 200 :: F) w') => hK _ _ ?_))
   | (refine wp_mid 60 _ rfl rfl T.cells (by kernel_rfl) (by rw [hT40.out]; exact size_slot) (at_blk H 0 rfl) (hK _ _ ?_)))
  refine (encode_c H hok.out).mono ?_; rintro e w' ⟨rfl, H⟩
  rw [HR.out]
  obtain ⟨Z, hZ⟩ : ∃ Z, Z = EncB T := ⟨_, rfl⟩
  have hZl := Lib.hid (show Z.length = 64 by rw [hZ]; exact EncB_length hok.out)
  rw [← hZ]
  have HZ := Lib.hid hZ
  clear hZ
  go_wp2_with ((first | (with_reducible refine wpList_op rfl ?_) | (refine wpList_opif (by rfl) ?_)); intro _ hK; first
   | (refine wp_alloc_sl 200 rfl info_b64 H (fun W w' (H : At w0 (raw W (v8 (zs 64)).toArray 200 :: raw S T.cells.toArray 60 :: raw O SlotD.zero.cells.toArray 60 :: raw A (v8 b).toArray 200 :: F) w') _ => hK _ _ ?_))
   | (refine wp_sta 200 _ _ rfl (cs := Z) rfl rfl (by rw [hZl.out]; exact size_b64) 0 H rfl (by rw [hZl.out, zs_length]) (fun w' H => ?_); replace H := (H.pull 3 rfl).pull 1 rfl; replace H : At w0 (raw W (v8 Z).toArray 200 :: raw A (v8 b).toArray 200 :: raw S T.cells.toArray 60 :: raw O SlotD.zero.cells.toArray 60 :: F) w' := H; skip; refine hK _ _ ?_)
   | (refine wp_lda 200 _ rfl rfl (by kernel_rfl) (by rw [hZl.out]; exact size_b64) 0 H rfl (hK _ _ ?_))
   | (refine wp_lda 200 _ rfl rfl (by kernel_rfl) (by rw [HB.out]; exact size_b64) 1 H rfl (hK _ _ ?_))
   | (refine wp_run (HEQ.out _ _ _ _ _ _ rfl rfl rfl) (hK _ _ ?_))
   | (refine wp_store_row_sl 60 _ _ rfl (cells := SlotD.zero.cells.toArray) rfl rfl (by kernel_rfl) (by simpa using SlotD.cells_one) 3 H rfl rfl (fun w' H => ?_); replace H := H.maskR [false, false, false, true]; replace H : At w0 (raw O SlotD.zero.cells.toArray 60 :: F) w' := H; refine hK _ _ ?_))
  exact bodyPost_ret (v := .tuple #[.agg SlotD.zero.cells.toArray, .int .i64 3]) (results_row_tmp rfl _ rfl (at_blk H 0 rfl) (by kernel_rfl) (by kernel_rfl) rfl) rfl ⟨rfl, H.tail⟩
 | true =>
  obtain ⟨E, hE⟩ : ∃ E, E = decide (T.bytes = b) := ⟨_, rfl⟩
  have hEnc : EncB T = T.bytes := by unfold EncB; rw [hr]; rfl
  have HEQ := Lib.hid (fun (w : World) (o : Oper) (ρ : Operand → Value) (x y : Operand) (yt : TypeId) (ho : o.op = .binOp .neq 200 x y yt) (hx : ρ x = .agg (v8 (EncB T)).toArray) (hy : ρ y = .agg (v8 b).toArray) => (show (execOp ρ o).run Tryz.prog w = .ok (.value (.bool (!E))) w by
   rw [hE, ← hEnc, ← eqB_v8]
   exact exec_neq_flat ho hx hy (by omega) key_b64 row_b64 flat_b64 cells_b64 guard_b64 (fits_v8n (EncB_length hok.out)) (fits_v8n HB.out)))
  have h1 : DecS b = if E then T else SlotD.zero := by
   unfold DecS
   rw [hd, hE]
   by_cases hbb : T.bytes = b
   · simp [hr, hbb]
   · simp [hbb]
  have h2 : DecE b = if E then 0 else 3 := by
   unfold DecE
   rw [hd, hE]
   by_cases hbb : T.bytes = b
   · simp [hr, hbb]
   · simp [hbb]
  rw [h1, h2]
  have HR := Lib.hid hr
  clear hb hT hd hr h1 h2 hE hEnc
  cases E
  · go_enter Tryz.func93, Tryz.ntmps93
    go_wp2_with ((with_reducible refine wpList_op rfl ?_); intro _ hK; first
     | (refine wp_box_sl (v := .agg (v8 b).toArray) 200 _ rfl rfl H (fun A w' (H : At w0 (raw A (v8 b).toArray 200 :: F) w') _ => hK _ _ ?_))
     | (refine wp_alloc_sl 60 rfl info_slot H (fun O w' (H : At w0 (raw O SlotD.zero.cells.toArray 60 :: raw A (v8 b).toArray 200 :: F) w') _ => hK _ _ ?_)))
    refine (sread_c H (see_blk 1 rfl HB.out.symm) HB.out).mono ?_; rintro e w' ⟨rfl, H⟩
    rw [← HT.out]
    go_wp2_with ((with_reducible refine wpList_op rfl ?_); intro _ hK; first
     | (refine wp_alloc_sl 60 rfl info_slot H (fun S w' (H : At w0 (raw S SlotD.zero.cells.toArray 60 :: raw O SlotD.zero.cells.toArray 60 :: raw A (v8 b).toArray 200 :: F) w') _ => hK _ _ ?_))
     | (refine wp_store_row_sl 60 _ _ rfl (cells := T.cells.toArray) rfl rfl (by rw [List.size_toArray, hT40.out]; exact size_slot) (by simpa using SlotD.cells_one) 0 H rfl (by rw [List.size_toArray, List.size_toArray, hT40.out]; rfl) (fun w' (H : At w0 (raw S T.cells.toArray 60 :: raw O SlotD.zero.cells.toArray 60 :: raw A (v8 b).toArray 200 :: F) w') => hK _ _ ?_))
     | (refine wp_mid 60 _ rfl rfl T.cells (by kernel_rfl) (by rw [hT40.out]; exact size_slot) (at_blk H 0 rfl) (hK _ _ ?_)))
    refine (encode_c H hok.out).mono ?_; rintro e w' ⟨rfl, H⟩
    rw [HR.out]
    obtain ⟨Z, hZ⟩ : ∃ Z, Z = EncB T := ⟨_, rfl⟩
    have hZl := Lib.hid (show Z.length = 64 by rw [hZ]; exact EncB_length hok.out)
    rw [← hZ]
    have HZ := Lib.hid hZ
    clear hZ
    go_wp2_with ((first | (with_reducible refine wpList_op rfl ?_) | (refine wpList_opif (by rfl) ?_)); intro _ hK; first
     | (refine wp_alloc_sl 200 rfl info_b64 H (fun W w' (H : At w0 (raw W (v8 (zs 64)).toArray 200 :: raw S T.cells.toArray 60 :: raw O SlotD.zero.cells.toArray 60 :: raw A (v8 b).toArray 200 :: F) w') _ => hK _ _ ?_))
     | (refine wp_sta 200 _ _ rfl (cs := Z) rfl rfl (by rw [hZl.out]; exact size_b64) 0 H rfl (by rw [hZl.out, zs_length]) (fun w' H => ?_); replace H := (H.pull 3 rfl).pull 1 rfl; replace H : At w0 (raw W (v8 Z).toArray 200 :: raw A (v8 b).toArray 200 :: raw S T.cells.toArray 60 :: raw O SlotD.zero.cells.toArray 60 :: F) w' := H; rw [← HZ.out] at HEQ; refine hK _ _ ?_)
     | (refine wp_lda 200 _ rfl rfl (by kernel_rfl) (by rw [hZl.out]; exact size_b64) 0 H rfl (hK _ _ ?_))
     | (refine wp_lda 200 _ rfl rfl (by kernel_rfl) (by rw [HB.out]; exact size_b64) 1 H rfl (hK _ _ ?_))
     | (refine wp_run (HEQ.out _ _ _ _ _ _ rfl rfl rfl) (hK _ _ ?_))
     | (refine wp_store_row_sl 60 _ _ rfl (cells := SlotD.zero.cells.toArray) rfl rfl (by kernel_rfl) (by simpa using SlotD.cells_one) 3 H rfl rfl (fun w' H => ?_); replace H := H.maskR [false, false, false, true]; replace H : At w0 (raw O SlotD.zero.cells.toArray 60 :: F) w' := H; refine hK _ _ ?_))
    exact bodyPost_ret (v := .tuple #[.agg SlotD.zero.cells.toArray, .int .i64 3]) (results_row_tmp rfl _ rfl (at_blk H 0 rfl) (by kernel_rfl) (by kernel_rfl) rfl) rfl ⟨rfl, H.tail⟩
  · go_enter Tryz.func93, Tryz.ntmps93
    go_wp2_with ((with_reducible refine wpList_op rfl ?_); intro _ hK; first
     | (refine wp_box_sl (v := .agg (v8 b).toArray) 200 _ rfl rfl H (fun A w' (H : At w0 (raw A (v8 b).toArray 200 :: F) w') _ => hK _ _ ?_))
     | (refine wp_alloc_sl 60 rfl info_slot H (fun O w' (H : At w0 (raw O SlotD.zero.cells.toArray 60 :: raw A (v8 b).toArray 200 :: F) w') _ => hK _ _ ?_)))
    refine (sread_c H (see_blk 1 rfl HB.out.symm) HB.out).mono ?_; rintro e w' ⟨rfl, H⟩
    rw [← HT.out]
    go_wp2_with ((with_reducible refine wpList_op rfl ?_); intro _ hK; first
     | (refine wp_alloc_sl 60 rfl info_slot H (fun S w' (H : At w0 (raw S SlotD.zero.cells.toArray 60 :: raw O SlotD.zero.cells.toArray 60 :: raw A (v8 b).toArray 200 :: F) w') _ => hK _ _ ?_))
     | (refine wp_store_row_sl 60 _ _ rfl (cells := T.cells.toArray) rfl rfl (by rw [List.size_toArray, hT40.out]; exact size_slot) (by simpa using SlotD.cells_one) 0 H rfl (by rw [List.size_toArray, List.size_toArray, hT40.out]; rfl) (fun w' (H : At w0 (raw S T.cells.toArray 60 :: raw O SlotD.zero.cells.toArray 60 :: raw A (v8 b).toArray 200 :: F) w') => hK _ _ ?_))
     | (refine wp_mid 60 _ rfl rfl T.cells (by kernel_rfl) (by rw [hT40.out]; exact size_slot) (at_blk H 0 rfl) (hK _ _ ?_)))
    refine (encode_c H hok.out).mono ?_; rintro e w' ⟨rfl, H⟩
    rw [HR.out]
    obtain ⟨Z, hZ⟩ : ∃ Z, Z = EncB T := ⟨_, rfl⟩
    have hZl := Lib.hid (show Z.length = 64 by rw [hZ]; exact EncB_length hok.out)
    rw [← hZ]
    have HZ := Lib.hid hZ
    clear hZ
    go_wp2_with ((first | (with_reducible refine wpList_op rfl ?_) | (refine wpList_opif (by rfl) ?_)); intro _ hK; first
     | (refine wp_alloc_sl 200 rfl info_b64 H (fun W w' (H : At w0 (raw W (v8 (zs 64)).toArray 200 :: raw S T.cells.toArray 60 :: raw O SlotD.zero.cells.toArray 60 :: raw A (v8 b).toArray 200 :: F) w') _ => hK _ _ ?_))
     | (refine wp_sta 200 _ _ rfl (cs := Z) rfl rfl (by rw [hZl.out]; exact size_b64) 0 H rfl (by rw [hZl.out, zs_length]) (fun w' H => ?_); replace H := (H.pull 3 rfl).pull 1 rfl; replace H : At w0 (raw W (v8 Z).toArray 200 :: raw A (v8 b).toArray 200 :: raw S T.cells.toArray 60 :: raw O SlotD.zero.cells.toArray 60 :: F) w' := H; rw [← HZ.out] at HEQ; refine hK _ _ ?_)
     | (refine wp_lda 200 _ rfl rfl (by kernel_rfl) (by rw [hZl.out]; exact size_b64) 0 H rfl (hK _ _ ?_))
     | (refine wp_lda 200 _ rfl rfl (by kernel_rfl) (by rw [HB.out]; exact size_b64) 1 H rfl (hK _ _ ?_))
     | (refine wp_run (HEQ.out _ _ _ _ _ _ rfl rfl rfl) (hK _ _ ?_))
     | (refine wp_mid 60 _ rfl rfl T.cells (by kernel_rfl) (by rw [hT40.out]; exact size_slot) (at_blk H 2 rfl) (hK _ _ ?_)) | (refine wp_store_row_sl 60 _ _ rfl (cells := T.cells.toArray) rfl rfl (by rw [List.size_toArray, hT40.out]; exact size_slot) (by simpa using SlotD.cells_one) 3 H rfl (by rw [List.size_toArray, List.size_toArray, hT40.out]; rfl) (fun w' H => ?_); replace H := H.maskR [false, false, false, true]; replace H : At w0 (raw O T.cells.toArray 60 :: F) w' := H; refine hK _ _ ?_))
    exact bodyPost_ret (v := .tuple #[.agg T.cells.toArray, .int .i64 0]) (results_row_tmp rfl _ rfl (at_blk H 0 rfl) (by kernel_rfl) (by rw [hT40.out]; exact size_slot) rfl) rfl ⟨rfl, H.tail⟩
end Go.Proofs.YtmflbekabkainaaGreatDoor
