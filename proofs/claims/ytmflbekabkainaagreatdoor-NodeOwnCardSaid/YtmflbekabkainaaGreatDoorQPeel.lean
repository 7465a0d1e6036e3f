import Derived.Test.YtmflbekabkainaaGreatDoorQOnionB
set_option linter.unusedVariables false
set_option linter.unusedSimpArgs false
namespace Go.Hg
open Go.RowKit
section
variable {P : Program} {ops : Array Oper} {Q : Exit → Act → World → Prop} {md : Region.Mode} {S S' : World → Prop} {ex : List Nat}
theorem wpAnyM_up (hup : ∀ w, S' w → S w) : ∀ (fuel : Nat) (listed : Array Bool) (a : Act) (w : World), wpAnyM P md ops Q S' ex fuel listed a w → wpAnyM P md ops Q S ex fuel listed a w
 | 0, _, _, _, h => h
 | fuel + 1, _, _, _, h => ⟨h.1, fun i hi => wpOp_mono (fun _ _ h3 => ⟨h3.1.imp_right fun h => h.imp_right (hup _), wpAnyM_up hup fuel _ _ _ h3.2⟩) (h.2 i hi)⟩
theorem wpM_up {steps : List (Nat × Nat)} {a : Act} {w : World} (hup : ∀ w, S' w → S w) (h : wpM P md ops Q S' ex steps a w) : wpM P md ops Q S ex steps a w :=
 fun listed hk => wpAnyM_up hup _ _ _ _ (h listed hk)
end
end Go.Hg
namespace Go.Proofs.YtmflbekabkainaaGreatDoor
open Go.RowKit Go.Hg
def slotPlaces : List (Nat × Nat) := [(0, 1), (1, 1), (2, 1), (3, 1), (4, 1), (5, 16), (21, 16), (37, 1), (38, 1), (39, 1)]
theorem places_slot : placesOf Tryz.prog 60 = some (SlotD.zero.cells, slotPlaces) := by kernel_rfl
theorem info_a384 : (Tryz.prog.info? 196).map (fun i => (i.zero, i.size, i.bytes)) = some (some (.agg (v8 (zs 384)).toArray), 384, 384) := by kernel_rfl
theorem under_a320 : Tryz.prog.underlying 86 = some (.array 320 5) := by kernel_rfl
theorem under_a256 : Tryz.prog.underlying 87 = some (.array 256 5) := by kernel_rfl
theorem size_a320 : (Tryz.prog.info? 86).map (·.size) = some 320 := by kernel_rfl
theorem size_a256 : (Tryz.prog.info? 87).map (·.size) = some 256 := by kernel_rfl
theorem peelOf_mac {key : List (BitVec 8)} {p : PktD} (h : macOf key p ≠ p.mac) : peelOf key p = (SlotD.zero, PktD.zero, 4) := if_pos h
theorem peelOf_none {key : List (BitVec 8)} {p : PktD} (h : macOf key p = p.mac) (h2 : SlotD.dec ((openOf key p).take 64) = none) : peelOf key p = (SlotD.zero, PktD.zero, 3) := by
 unfold peelOf
 rw [if_neg (by simp [h]), h2]
theorem peelOf_some {key : List (BitVec 8)} {p : PktD} {s : SlotD} (h : macOf key p = p.mac) (h2 : SlotD.dec ((openOf key p).take 64) = some s) :
    peelOf key p = (s, ⟨s.who, s.epoch, s.nonce, s.mac, (openOf key p).drop 64, xorB p.body (bodiesOf (keysOf key p.epoch p.nonce))⟩, 0) := by
 unfold peelOf
 rw [if_neg (by simp [h]), h2]
theorem copy_head {h : List (BitVec 8)} (hh : h.length = 320) : (v8 (zs 384)).take 0 ++ v8 h ++ (v8 (zs 384)).drop (0 + (v8 h).length) = v8 (h ++ zs 64) := by
 rw [v8_length, List.take_zero, List.nil_append, Nat.zero_add, hh]
 unfold v8 zs
 rw [List.map_append, List.map_replicate, List.map_replicate, List.drop_replicate]
set_option maxRecDepth 10000 in
set_option maxHeartbeats 4000000 in
theorem peel_bad {w0 w : World} {F : List SP} {key : List (BitVec 8)} {p : PktD} (G : Glob w0) (H : At w0 F w) (hk : key.length = 32) (po : p.ok) (hm : macOf key p ≠ p.mac) :
    Calls Tryz.prog 52 #[.agg (v8 key).toArray, .agg p.cells.toArray] w fun r w' => r = .returned (.tuple #[.agg SlotD.zero.cells.toArray, .agg PktD.zero.cells.toArray, .int .i64 4]) ∧ At w0 F w' := by
 have HK := Lib.hid hk
 have PO := Lib.hid po
 have h2 := Lib.hid (PktD.part_nonce po)
 have h3 := Lib.hid (PktD.part_mac po)
 have h4 := Lib.hid (PktD.part_head po)
 have h5 := Lib.hid (PktD.part_body po)
 have hpl := Lib.hid (PktD.cells_length po)
 obtain ⟨T, hT⟩ : ∃ T, T = macOf key p := ⟨_, rfl⟩
 obtain ⟨Y, hY⟩ : ∃ Y, Y = keysOf key p.epoch p.nonce := ⟨_, rfl⟩
 have HYO := Lib.hid (show Y.ok by rw [hY]; exact keysOf_ok _ _ _)
 have hYl := Lib.hid (KeysD.cells_length HYO.out)
 have hTl := Lib.hid (show T.length = 16 by rw [hT]; exact sumOf_length _ _)
 have HT := Lib.hid (show sumOf Y p = T by rw [hT, hY]; rfl)
 have HY := Lib.hid hY
 have HE := Lib.hid (show decide (T = p.mac) = false by rw [hT]; simpa using hm)
 clear hk po hT hY hm
 go_enter Tryz.func52, Tryz.ntmps52
 go_wp2_with ((with_reducible refine wpList_op rfl ?_); intro _ hK; first
  | (refine wp_box_sl (v := .agg (v8 key).toArray) 41 _ rfl rfl H (fun A w' (H : At w0 (raw A (v8 key).toArray 41 :: F) w') _ => hK _ _ ?_))
  | (refine wp_box_sl (v := .agg p.cells.toArray) 89 _ rfl rfl H (fun P w' (H : At w0 (raw P p.cells.toArray 89 :: raw A (v8 key).toArray 41 :: F) w') _ => hK _ _ ?_))
  | (refine wp_alloc_sl 60 rfl info_slot H (fun S w' (H : At w0 (raw S SlotD.zero.cells.toArray 60 :: raw P p.cells.toArray 89 :: raw A (v8 key).toArray 41 :: F) w') _ => hK _ _ ?_))
  | (refine wp_alloc_sl 89 rfl info_pkt H (fun Q w' (H : At w0 (raw Q PktD.zero.cells.toArray 89 :: raw S SlotD.zero.cells.toArray 60 :: raw P p.cells.toArray 89 :: raw A (v8 key).toArray 41 :: F) w') _ => hK _ _ ?_))
  | (refine wp_lda 41 _ rfl rfl (by kernel_rfl) (by rw [HK.out]; exact size_key) 3 H rfl (hK _ _ ?_))
  | (refine wp_get 36 _ rfl rfl (by kernel_rfl) (at_raw H 2 rfl (v := .int .u32 (p.epoch : Int)) rfl) (hK _ _ ?_))
  | (refine wp_mid 57 _ rfl (b := P) (off := 2) rfl (v8 p.nonce) (by kernel_rfl) (by rw [v8_length, PO.out.nonce]; exact size_nonce) (at_part H 2 rfl (by rw [v8_length, PO.out.nonce]; exact h2.out)) (hK _ _ ?_)))
 refine (oderive_c G H HK.out PO.out.nonce PO.out.epoch).mono ?_; rintro e w' ⟨rfl, H⟩
 rw [← HY.out]
 go_wp2_with ((with_reducible refine wpList_op rfl ?_); intro _ hK; first
  | (refine wp_alloc_sl 192 rfl info_keys H (fun KB w' (H : At w0 (raw KB KeysD.zero.cells.toArray 192 :: raw Q PktD.zero.cells.toArray 89 :: raw S SlotD.zero.cells.toArray 60 :: raw P p.cells.toArray 89 :: raw A (v8 key).toArray 41 :: F) w') _ => hK _ _ ?_))
  | (refine wp_store_row_sl 192 _ _ rfl (cells := Y.cells.toArray) rfl rfl (by rw [List.size_toArray, hYl.out]; exact size_keys) (by simpa using KeysD.cells_one) 0 H rfl (by rw [List.size_toArray, List.size_toArray, hYl.out]; rfl) (fun w' H => ?_); replace H : At w0 (raw KB Y.cells.toArray 192 :: raw Q PktD.zero.cells.toArray 89 :: raw S SlotD.zero.cells.toArray 60 :: raw P p.cells.toArray 89 :: F) w' := H.maskR [true, true, true, true, false]; refine hK _ _ ?_)
  | (refine wp_mid 192 _ rfl rfl Y.cells (by kernel_rfl) (by rw [hYl.out]; exact size_keys) (at_blk H 0 rfl) (hK _ _ ?_))
  | (refine wp_mid 89 _ rfl rfl p.cells (by kernel_rfl) (by rw [hpl.out]; exact size_pkt) (at_blk H 3 rfl) (hK _ _ ?_)))
 refine (ksum_c G H HYO.out PO.out).mono ?_; rintro e w' ⟨rfl, H⟩
 rw [HT.out]
 go_wp2_with ((with_reducible refine wpList_op rfl ?_); intro _ hK; first
  | (refine wp_alloc_sl 58 rfl info_mact H (fun M w' (H : At w0 (raw M (v8 (zs 16)).toArray 58 :: raw KB Y.cells.toArray 192 :: raw Q PktD.zero.cells.toArray 89 :: raw S SlotD.zero.cells.toArray 60 :: raw P p.cells.toArray 89 :: F) w') _ => hK _ _ ?_))
  | (refine wp_sta 58 _ _ rfl (bs := zs 16) (cs := T) rfl rfl (by rw [hTl.out]; exact size_mact) 0 H rfl (by rw [hTl.out, zs_length]) (fun w' (H : At w0 (raw M (v8 T).toArray 58 :: raw KB Y.cells.toArray 192 :: raw Q PktD.zero.cells.toArray 89 :: raw S SlotD.zero.cells.toArray 60 :: raw P p.cells.toArray 89 :: F) w') => hK _ _ ?_)))
 refine wpM_begin [] ((At w0 (raw M (v8 T).toArray 58 :: raw KB Y.cells.toArray 192 :: raw Q PktD.zero.cells.toArray 89 :: raw S SlotD.zero.cells.toArray 60 :: raw P p.cells.toArray 89 :: F))) [(0, 2), (1, 2), (2, 2), (3, 0), (4, 2)] rfl (by kernel_rfl) (by kernel_rfl) ((H.drew)) ?_
 intro ops hOps hS
 replace H := H.drew
 iterate 3 refine fm hOps ?_
 refine wpM_next hOps rfl rfl ?_
 intro K hK
 refine wp_call _ _ _ rfl Tryz.func90 rfl (by kernel_rfl) ?_
 simp only [List.map_toArray, List.map_cons, List.map_nil, Act.eval, Array.getD_eq_getD_getElem?, List.getElem?_toArray, List.getElem?_cons_zero, List.getElem?_cons_succ, Option.getD_some]
 refine (same_c H (see_blk 0 rfl hTl.out.symm) (see_part 4 rfl PO.out.mac.symm (Nat.le_refl _) h3.out) (by rw [hTl.out]; omega) (by rw [hTl.out, PO.out.mac]) (by rw [hTl.out]; omega)).mono ?_; rintro e w' ⟨rfl, H⟩
 rw [HE.out]
 have hS := (H)
 refine hK _ _ (.inr hS) ?_
 clear hK K
 simp only [nrm]
 refine fm hOps ?_
 refine wpM_end ?_
 clear hOps hS ops
 replace H : At w0 (raw KB Y.cells.toArray 192 :: raw Q PktD.zero.cells.toArray 89 :: raw S SlotD.zero.cells.toArray 60 :: raw P p.cells.toArray 89 :: F) w' := H.tail
 go_wp2_with ((with_reducible refine wpList_op rfl ?_); intro _ hK; first
  | (refine Hg.wp_build 60 _ rfl (by rw [Array.toList_map]; rfl) (run_buildL places_slot [] rfl _) (hK _ _ ?_))
  | (refine Hg.wp_build 89 _ rfl (by rw [Array.toList_map]; rfl) (run_buildL places_pkt [] rfl _) (hK _ _ ?_))
  | (refine wp_store_row_sl 60 _ _ rfl (cells := SlotD.zero.cells.toArray) rfl rfl (by kernel_rfl) (by simpa using SlotD.cells_one) 2 H rfl rfl (fun w' H => ?_); replace H : At w0 (raw KB Y.cells.toArray 192 :: raw Q PktD.zero.cells.toArray 89 :: raw S SlotD.zero.cells.toArray 60 :: raw P p.cells.toArray 89 :: F) w' := H; refine hK _ _ ?_)
  | (refine wp_store_row_sl 89 _ _ rfl (cells := PktD.zero.cells.toArray) rfl rfl (by kernel_rfl) (by simpa using PktD.cells_one) 1 H rfl rfl (fun w' H => ?_); replace H : At w0 (raw Q PktD.zero.cells.toArray 89 :: raw S SlotD.zero.cells.toArray 60 :: F) w' := H.maskR [false, true, true, false]; refine hK _ _ ?_))
 exact bodyPost_ret (v := .tuple #[.agg SlotD.zero.cells.toArray, .agg PktD.zero.cells.toArray, .int .i64 4]) (results_row2_tmp rfl _ rfl (at_blk H 1 rfl) (by kernel_rfl) (by kernel_rfl) rfl (at_blk H 0 rfl) (by kernel_rfl) (by kernel_rfl) rfl) rfl ⟨rfl, H.tail.tail⟩
theorem under_b64' : Tryz.prog.underlying 200 = some (.array 64 5) := by kernel_rfl
set_option maxRecDepth 10000 in
set_option maxHeartbeats 4000000 in
theorem peel_none {w0 w : World} {F : List SP} {key : List (BitVec 8)} {p : PktD} (G : Glob w0) (H : At w0 F w) (hk : key.length = 32) (po : p.ok) (hm : macOf key p = p.mac) (hd : SlotD.dec ((openOf key p).take 64) = none) :
    Calls Tryz.prog 52 #[.agg (v8 key).toArray, .agg p.cells.toArray] w fun r w' => r = .returned (.tuple #[.agg SlotD.zero.cells.toArray, .agg PktD.zero.cells.toArray, .int .i64 3]) ∧ At w0 F w' := by
 have HK := Lib.hid hk
 have PO := Lib.hid po
 have h2 := Lib.hid (PktD.part_nonce po)
 have h3 := Lib.hid (PktD.part_mac po)
 have h4 := Lib.hid (PktD.part_head po)
 have h5 := Lib.hid (PktD.part_body po)
 have hpl := Lib.hid (PktD.cells_length po)
 obtain ⟨T, hT⟩ : ∃ T, T = macOf key p := ⟨_, rfl⟩
 obtain ⟨Y, hY⟩ : ∃ Y, Y = keysOf key p.epoch p.nonce := ⟨_, rfl⟩
 have HYO := Lib.hid (show Y.ok by rw [hY]; exact keysOf_ok _ _ _)
 have hYl := Lib.hid (KeysD.cells_length HYO.out)
 have hTl := Lib.hid (show T.length = 16 by rw [hT]; exact sumOf_length _ _)
 have HT := Lib.hid (show sumOf Y p = T by rw [hT, hY]; rfl)
 have HY := Lib.hid hY
 obtain ⟨Z, hZ⟩ : ∃ Z, Z = openOf key p := ⟨_, rfl⟩
 have hZl := Lib.hid (show Z.length = 384 by rw [hZ]; exact openOf_length _ po.head)
 have hZ64 := Lib.hid (show (Z.take 64).length = 64 by rw [List.length_take, hZl.out]; rfl)
 have HZ := Lib.hid (show xorB (p.head ++ zs 64) (headsOf Y) = Z by rw [hZ, hY]; rfl)
 have HE := Lib.hid (show decide (T = p.mac) = true by rw [hT]; simpa using hm)
 have hDS := Lib.hid (show DecS (Z.take 64) = SlotD.zero by rw [hZ]; unfold DecS; rw [hd]; rfl)
 have hDE := Lib.hid (show DecE (Z.take 64) = 3 by rw [hZ]; unfold DecE; rw [hd]; rfl)
 clear hk po hT hY hm hd hZ
 go_enter Tryz.func52, Tryz.ntmps52
 go_wp2_with ((with_reducible refine wpList_op rfl ?_); intro _ hK; first
  | (refine wp_box_sl (v := .agg (v8 key).toArray) 41 _ rfl rfl H (fun A w' (H : At w0 (raw A (v8 key).toArray 41 :: F) w') _ => hK _ _ ?_))
  | (refine wp_box_sl (v := .agg p.cells.toArray) 89 _ rfl rfl H (fun P w' (H : At w0 (raw P p.cells.toArray 89 :: raw A (v8 key).toArray 41 :: F) w') _ => hK _ _ ?_))
  | (refine wp_alloc_sl 60 rfl info_slot H (fun S w' (H : At w0 (raw S SlotD.zero.cells.toArray 60 :: raw P p.cells.toArray 89 :: raw A (v8 key).toArray 41 :: F) w') _ => hK _ _ ?_))
  | (refine wp_alloc_sl 89 rfl info_pkt H (fun Q w' (H : At w0 (raw Q PktD.zero.cells.toArray 89 :: raw S SlotD.zero.cells.toArray 60 :: raw P p.cells.toArray 89 :: raw A (v8 key).toArray 41 :: F) w') _ => hK _ _ ?_))
  | (refine wp_lda 41 _ rfl rfl (by kernel_rfl) (by rw [HK.out]; exact size_key) 3 H rfl (hK _ _ ?_))
  | (refine wp_get 36 _ rfl rfl (by kernel_rfl) (at_raw H 2 rfl (v := .int .u32 (p.epoch : Int)) rfl) (hK _ _ ?_))
  | (refine wp_mid 57 _ rfl (b := P) (off := 2) rfl (v8 p.nonce) (by kernel_rfl) (by rw [v8_length, PO.out.nonce]; exact size_nonce) (at_part H 2 rfl (by rw [v8_length, PO.out.nonce]; exact h2.out)) (hK _ _ ?_)))
 refine (oderive_c G H HK.out PO.out.nonce PO.out.epoch).mono ?_; rintro e w' ⟨rfl, H⟩
 rw [← HY.out]
 go_wp2_with ((with_reducible refine wpList_op rfl ?_); intro _ hK; first
  | (refine wp_alloc_sl 192 rfl info_keys H (fun KB w' (H : At w0 (raw KB KeysD.zero.cells.toArray 192 :: raw Q PktD.zero.cells.toArray 89 :: raw S SlotD.zero.cells.toArray 60 :: raw P p.cells.toArray 89 :: raw A (v8 key).toArray 41 :: F) w') _ => hK _ _ ?_))
  | (refine wp_store_row_sl 192 _ _ rfl (cells := Y.cells.toArray) rfl rfl (by rw [List.size_toArray, hYl.out]; exact size_keys) (by simpa using KeysD.cells_one) 0 H rfl (by rw [List.size_toArray, List.size_toArray, hYl.out]; rfl) (fun w' H => ?_); replace H : At w0 (raw KB Y.cells.toArray 192 :: raw Q PktD.zero.cells.toArray 89 :: raw S SlotD.zero.cells.toArray 60 :: raw P p.cells.toArray 89 :: F) w' := H.maskR [true, true, true, true, false]; refine hK _ _ ?_)
  | (refine wp_mid 192 _ rfl rfl Y.cells (by kernel_rfl) (by rw [hYl.out]; exact size_keys) (at_blk H 0 rfl) (hK _ _ ?_))
  | (refine wp_mid 89 _ rfl rfl p.cells (by kernel_rfl) (by rw [hpl.out]; exact size_pkt) (at_blk H 3 rfl) (hK _ _ ?_)))
 refine (ksum_c G H HYO.out PO.out).mono ?_; rintro e w' ⟨rfl, H⟩
 rw [HT.out]
 go_wp2_with ((with_reducible refine wpList_op rfl ?_); intro _ hK; first
  | (refine wp_alloc_sl 58 rfl info_mact H (fun M w' (H : At w0 (raw M (v8 (zs 16)).toArray 58 :: raw KB Y.cells.toArray 192 :: raw Q PktD.zero.cells.toArray 89 :: raw S SlotD.zero.cells.toArray 60 :: raw P p.cells.toArray 89 :: F) w') _ => hK _ _ ?_))
  | (refine wp_sta 58 _ _ rfl (bs := zs 16) (cs := T) rfl rfl (by rw [hTl.out]; exact size_mact) 0 H rfl (by rw [hTl.out, zs_length]) (fun w' (H : At w0 (raw M (v8 T).toArray 58 :: raw KB Y.cells.toArray 192 :: raw Q PktD.zero.cells.toArray 89 :: raw S SlotD.zero.cells.toArray 60 :: raw P p.cells.toArray 89 :: F) w') => hK _ _ ?_)))
 refine wpM_begin [] ((At w0 (raw M (v8 T).toArray 58 :: raw KB Y.cells.toArray 192 :: raw Q PktD.zero.cells.toArray 89 :: raw S SlotD.zero.cells.toArray 60 :: raw P p.cells.toArray 89 :: F))) [(0, 2), (1, 2), (2, 2), (3, 0), (4, 2)] rfl (by kernel_rfl) (by kernel_rfl) ((H.drew)) ?_
 intro ops hOps hS
 replace H := H.drew
 iterate 3 refine fm hOps ?_
 refine wpM_next hOps rfl rfl ?_
 intro K hK
 refine wp_call _ _ _ rfl Tryz.func90 rfl (by kernel_rfl) ?_
 simp only [List.map_toArray, List.map_cons, List.map_nil, Act.eval, Array.getD_eq_getD_getElem?, List.getElem?_toArray, List.getElem?_cons_zero, List.getElem?_cons_succ, Option.getD_some]
 refine (same_c H (see_blk 0 rfl hTl.out.symm) (see_part 4 rfl PO.out.mac.symm (Nat.le_refl _) h3.out) (by rw [hTl.out]; omega) (by rw [hTl.out, PO.out.mac]) (by rw [hTl.out]; omega)).mono ?_; rintro e w' ⟨rfl, H⟩
 rw [HE.out]
 have hS := (H)
 refine hK _ _ (.inr hS) ?_
 clear hK K
 simp only [nrm]
 refine fm hOps ?_
 refine wpM_end ?_
 clear hOps hS ops
 replace H : At w0 (raw KB Y.cells.toArray 192 :: raw Q PktD.zero.cells.toArray 89 :: raw S SlotD.zero.cells.toArray 60 :: raw P p.cells.toArray 89 :: F) w' := H.tail
 go_wp2_with ((with_reducible refine wpList_op rfl ?_); intro _ hK; (refine wp_alloc_sl 196 rfl info_a384 H (fun B w' (H : At w0 (raw B (v8 (zs 384)).toArray 196 :: raw KB Y.cells.toArray 192 :: raw Q PktD.zero.cells.toArray 89 :: raw S SlotD.zero.cells.toArray 60 :: raw P p.cells.toArray 89 :: F) w') _ => hK _ _ ?_)))
 refine wpM_begin [3] ((At w0 (raw B (v8 (zs 384)).toArray 196 :: raw KB Y.cells.toArray 192 :: raw Q PktD.zero.cells.toArray 89 :: raw S SlotD.zero.cells.toArray 60 :: raw P p.cells.toArray 89 :: F))) [(0, 2), (1, 2), (2, 2), (3, 0)] rfl (by kernel_rfl) (by kernel_rfl) ((H.drew)) ?_
 intro ops hOps hS
 replace H := H.drew
 iterate 3 refine fm hOps ?_
 refine wpM_next hOps rfl rfl ?_
 intro K hK
 refine wp_copy_in (e := 5) _ _ _ _ rfl (by kernel_rfl) (by kernel_rfl) rfl rfl 0 H rfl (cs := v8 p.head) (by rw [v8_length, PO.out.head]; rfl) (fun j v hj => by rw [Addr.add_lit]; exact at_part H 4 rfl (by rw [v8_length, PO.out.head]; exact h4.out) j v hj) (by rw [v8_length, v8_length, PO.out.head, zs_length]; omega) (v8_one _) (fun w' H => ?_)
 rw [copy_head PO.out.head] at H
 replace H : At w0 (raw B (v8 (p.head ++ zs 64)).toArray 196 :: raw KB Y.cells.toArray 192 :: raw Q PktD.zero.cells.toArray 89 :: raw S SlotD.zero.cells.toArray 60 :: raw P p.cells.toArray 89 :: F) w' := H
 refine hK _ _ (.inl (by decide)) ?_
 clear hK K
 simp only [nrm]
 refine wpM_end ?_
 clear hOps hS ops
 go_wp2_with fail
 refine wpM_begin [] ((At w0 (raw B (v8 (p.head ++ zs 64)).toArray 196 :: raw KB Y.cells.toArray 192 :: raw Q PktD.zero.cells.toArray 89 :: raw S SlotD.zero.cells.toArray 60 :: raw P p.cells.toArray 89 :: F))) [(0, 2), (1, 1), (2, 0), (3, 0), (4, 0)] rfl (by kernel_rfl) (by kernel_rfl) ((H.drew)) ?_
 intro ops hOps hS
 replace H := H.drew
 refine fm hOps ?_
 refine wpM_take hOps hS rfl (fun _ _ _ h => h) (yl_mid rfl 192 _ rfl rfl Y.cells (by kernel_rfl) (by rw [hYl.out]; exact size_keys) (fun w hw => at_blk hw 1 rfl)) ?_
 simp only [nrm]
 refine wpM_next hOps rfl rfl ?_
 intro K hK
 refine wp_call _ _ _ rfl Tryz.func92 rfl (by kernel_rfl) ?_
 simp only [List.map_toArray, List.map_cons, List.map_nil, Act.eval, Array.getD_eq_getD_getElem?, List.getElem?_toArray, List.getElem?_cons_zero, List.getElem?_cons_succ, Option.getD_some]
 refine (kheads_c G H HYO.out).mono ?_; rintro e w' ⟨ha, hq, rfl, H⟩
 have hsl := Lib.hid (headsOf_length HYO.out)
 rw [hsl.out] at H ⊢
 have hS := (H.tail)
 refine hK _ _ (.inr hS) ?_
 clear hK K
 simp only [nrm]
 refine wpM_next hOps rfl rfl ?_
 intro K hK
 refine wp_call _ _ _ rfl Tryz.func91 rfl (by kernel_rfl) ?_
 simp only [List.map_toArray, List.map_cons, List.map_nil, Act.eval, Array.getD_eq_getD_getElem?, List.getElem?_toArray, List.getElem?_cons_zero, List.getElem?_cons_succ, Option.getD_some]
 refine (xor_c H (see_blk (bs := p.head ++ zs 64) 1 rfl (by rw [List.length_append, PO.out.head, zs_length])) (see_own el_u8 H 0 hsl.out.symm rfl) (by rw [List.length_append, PO.out.head, zs_length]; omega) (by rw [List.length_append, PO.out.head, zs_length, hsl.out]; omega) (by rw [hsl.out]; omega)).mono ?_; rintro e w' ⟨X, rfl, H⟩
 rw [HZ.out, hZl.out] at H
 rw [HZ.out, hZl.out]
 have hS := (H.tail.tail)
 refine hK _ _ (.inr hS) ?_
 clear hK K
 simp only [nrm]
 refine wpM_next hOps rfl rfl ?_
 intro K hK
 refine wp_run rfl ?_
 have hS := (hS)
 refine hK _ _ (.inr hS) ?_
 clear hK K
 simp only [nrm]
 refine wpM_end ?_
 clear hOps hS ops
 replace H : At w0 (lrow 5 1 c8 (.slice (some ⟨X, 0, none⟩) 384 384) Z :: raw KB Y.cells.toArray 192 :: raw Q PktD.zero.cells.toArray 89 :: raw S SlotD.zero.cells.toArray 60 :: raw P p.cells.toArray 89 :: F) w' := H.maskR [true, false, false, true, true, true, true]
 go_wp2_with ((with_reducible refine wpList_op rfl ?_); intro _ hK; first
  | (refine wp_arr 200 _ rfl under_b64' rfl (by omega) (hK _ _ ?_))
  | (refine wp_mid 200 _ rfl (b := X) (off := 0) rfl (v8 (Z.take 64)) (by kernel_rfl) (by rw [v8_length, hZ64.out]; exact size_b64) (see_range H (see_own el_u8 H 0 hZl.out.symm rfl) 64) (hK _ _ ?_)))
 refine (decode_c H hZ64.out).mono ?_; rintro e w' ⟨rfl, H⟩
 rw [hDS.out, hDE.out]
 go_wp2_with ((with_reducible refine wpList_op rfl ?_); intro _ hK; first
  | (refine wp_alloc_sl 60 rfl info_slot H (fun D w' H _ => ?_); replace H : At w0 (raw D SlotD.zero.cells.toArray 60 :: raw Q PktD.zero.cells.toArray 89 :: raw S SlotD.zero.cells.toArray 60 :: F) w' := H.maskR [true, false, false, true, true, false]; refine hK _ _ ?_)
  | (refine wp_store_row_sl 60 _ _ rfl (cells := SlotD.zero.cells.toArray) rfl rfl (by kernel_rfl) (by simpa using SlotD.cells_one) 0 H rfl rfl (fun w' H => ?_); replace H : At w0 (raw D SlotD.zero.cells.toArray 60 :: raw Q PktD.zero.cells.toArray 89 :: raw S SlotD.zero.cells.toArray 60 :: F) w' := H; refine hK _ _ ?_)
  | (refine Hg.wp_build 60 _ rfl (by rw [Array.toList_map]; rfl) (run_buildL places_slot [] rfl _) (hK _ _ ?_))
  | (refine Hg.wp_build 89 _ rfl (by rw [Array.toList_map]; rfl) (run_buildL places_pkt [] rfl _) (hK _ _ ?_))
  | (refine wp_store_row_sl 60 _ _ rfl (cells := SlotD.zero.cells.toArray) rfl rfl (by kernel_rfl) (by simpa using SlotD.cells_one) 2 H rfl rfl (fun w' H => ?_); replace H : At w0 (raw D SlotD.zero.cells.toArray 60 :: raw Q PktD.zero.cells.toArray 89 :: raw S SlotD.zero.cells.toArray 60 :: F) w' := H; refine hK _ _ ?_)
  | (refine wp_store_row_sl 89 _ _ rfl (cells := PktD.zero.cells.toArray) rfl rfl (by kernel_rfl) (by simpa using PktD.cells_one) 1 H rfl rfl (fun w' H => ?_); replace H : At w0 (raw Q PktD.zero.cells.toArray 89 :: raw S SlotD.zero.cells.toArray 60 :: F) w' := H.tail; refine hK _ _ ?_))
 exact bodyPost_ret (v := .tuple #[.agg SlotD.zero.cells.toArray, .agg PktD.zero.cells.toArray, .int .i64 3]) (results_row2_tmp rfl _ rfl (at_blk H 1 rfl) (by kernel_rfl) (by kernel_rfl) rfl (at_blk H 0 rfl) (by kernel_rfl) (by kernel_rfl) rfl) rfl ⟨rfl, H.tail.tail⟩
set_option maxRecDepth 10000 in
set_option maxHeartbeats 4000000 in
theorem peel_some {w0 w : World} {F : List SP} {key : List (BitVec 8)} {p : PktD} {s : SlotD} (G : Glob w0) (H : At w0 F w) (hk : key.length = 32) (po : p.ok) (hm : macOf key p = p.mac) (hd : SlotD.dec ((openOf key p).take 64) = some s) :
    Calls Tryz.prog 52 #[.agg (v8 key).toArray, .agg p.cells.toArray] w fun r w' => r = .returned (.tuple #[.agg s.cells.toArray, .agg (PktD.mk s.who s.epoch s.nonce s.mac ((openOf key p).drop 64) (xorB p.body (bodiesOf (keysOf key p.epoch p.nonce)))).cells.toArray, .int .i64 0]) ∧ At w0 F w' := by
 have HK := Lib.hid hk
 have PO := Lib.hid po
 have h2 := Lib.hid (PktD.part_nonce po)
 have h3 := Lib.hid (PktD.part_mac po)
 have h4 := Lib.hid (PktD.part_head po)
 have h5 := Lib.hid (PktD.part_body po)
 have hpl := Lib.hid (PktD.cells_length po)
 obtain ⟨T, hT⟩ : ∃ T, T = macOf key p := ⟨_, rfl⟩
 obtain ⟨Y, hY⟩ : ∃ Y, Y = keysOf key p.epoch p.nonce := ⟨_, rfl⟩
 have HYO := Lib.hid (show Y.ok by rw [hY]; exact keysOf_ok _ _ _)
 have hYl := Lib.hid (KeysD.cells_length HYO.out)
 have hTl := Lib.hid (show T.length = 16 by rw [hT]; exact sumOf_length _ _)
 have HT := Lib.hid (show sumOf Y p = T by rw [hT, hY]; rfl)
 have HY := Lib.hid hY
 obtain ⟨Z, hZ⟩ : ∃ Z, Z = openOf key p := ⟨_, rfl⟩
 have hZl := Lib.hid (show Z.length = 384 by rw [hZ]; exact openOf_length _ po.head)
 have hZ64 := Lib.hid (show (Z.take 64).length = 64 by rw [List.length_take, hZl.out]; rfl)
 have HZ := Lib.hid (show xorB (p.head ++ zs 64) (headsOf Y) = Z by rw [hZ, hY]; rfl)
 have HE := Lib.hid (show decide (T = p.mac) = true by rw [hT]; simpa using hm)
 have hso := (SlotD.dec_some (by rw [← hZ]; exact hZ64.out) hd).2.1
 have SO := Lib.hid hso
 have hsc := Lib.hid (SlotD.cells_length hso.nonce hso.mac)
 have g1 := Lib.hid (SlotD.cells_nonce hso.nonce)
 have g2 := Lib.hid (SlotD.cells_mac hso.nonce hso.mac)
 have hDS := Lib.hid (show DecS (Z.take 64) = s by rw [hZ]; unfold DecS; rw [hd]; rfl)
 have hDE := Lib.hid (show DecE (Z.take 64) = 0 by rw [hZ]; unfold DecE; rw [hd]; rfl)
 obtain ⟨V, hV⟩ : ∃ V, V = (openOf key p).drop 64 := ⟨_, rfl⟩
 have hVl := Lib.hid (show V.length = 320 by rw [hV, ← hZ, List.length_drop, hZl.out])
 have HV := Lib.hid (show Z.drop 64 = V by rw [hV, hZ])
 obtain ⟨U, hU⟩ : ∃ U, U = xorB p.body (bodiesOf Y) := ⟨_, rfl⟩
 have hUl := Lib.hid (show U.length = 256 by rw [hU, xorB_length, po.body, bodiesOf_length HYO.out]; rfl)
 have HU := Lib.hid hU.symm
 rw [← hV, ← hY, ← hU]
 have hb1 := run_buildL places_pkt [(0, .int .u16 (s.who : Int)), (1, .int .u32 (s.epoch : Int)), (2, .agg (v8 s.nonce).toArray), (3, .agg (v8 s.mac).toArray), (4, .agg (v8 V).toArray)] (PktD.build_all (who := s.who) (epoch := s.epoch) hso.nonce hso.mac hVl.out)
 have HB1 := Lib.hid hb1
 have hb2 := PktD.put_body (p := ⟨s.who, s.epoch, s.nonce, s.mac, V, zs 256⟩) hso.nonce hso.mac hVl.out (zs_length _) hUl.out
 have HB2 := Lib.hid hb2
 obtain ⟨q1, hq1⟩ : ∃ q, q = PktD.mk s.who s.epoch s.nonce s.mac V (zs 256) := ⟨_, rfl⟩
 obtain ⟨q2, hq2⟩ : ∃ q, q = PktD.mk s.who s.epoch s.nonce s.mac V U := ⟨_, rfl⟩
 have hq1l := Lib.hid (show q1.cells.length = 610 by rw [hq1]; simp [PktD.cells, v8_length, hso.nonce, hso.mac, hVl.out, zs_length])
 have hq2l := Lib.hid (show q2.cells.length = 610 by rw [hq2]; simp [PktD.cells, v8_length, hso.nonce, hso.mac, hVl.out, hUl.out])
 rw [← hq2]
 rw [← hq1] at HB1 HB2
 rw [show ({ q1 with body := U } : PktD) = q2 by rw [hq1, hq2]] at HB2
 clear hk po hT hY hm hd hZ hso hV hU hb1 hb2 hq1 hq2
 go_enter Tryz.func52, Tryz.ntmps52
 go_wp2_with ((with_reducible refine wpList_op rfl ?_); intro _ hK; first
  | (refine wp_box_sl (v := .agg (v8 key).toArray) 41 _ rfl rfl H (fun A w' (H : At w0 (raw A (v8 key).toArray 41 :: F) w') _ => hK _ _ ?_))
  | (refine wp_box_sl (v := .agg p.cells.toArray) 89 _ rfl rfl H (fun P w' (H : At w0 (raw P p.cells.toArray 89 :: raw A (v8 key).toArray 41 :: F) w') _ => hK _ _ ?_))
  | (refine wp_alloc_sl 60 rfl info_slot H (fun S w' (H : At w0 (raw S SlotD.zero.cells.toArray 60 :: raw P p.cells.toArray 89 :: raw A (v8 key).toArray 41 :: F) w') _ => hK _ _ ?_))
  | (refine wp_alloc_sl 89 rfl info_pkt H (fun Q w' (H : At w0 (raw Q PktD.zero.cells.toArray 89 :: raw S SlotD.zero.cells.toArray 60 :: raw P p.cells.toArray 89 :: raw A (v8 key).toArray 41 :: F) w') _ => hK _ _ ?_))
  | (refine wp_lda 41 _ rfl rfl (by kernel_rfl) (by rw [HK.out]; exact size_key) 3 H rfl (hK _ _ ?_))
  | (refine wp_get 36 _ rfl rfl (by kernel_rfl) (at_raw H 2 rfl (v := .int .u32 (p.epoch : Int)) rfl) (hK _ _ ?_))
  | (refine wp_mid 57 _ rfl (b := P) (off := 2) rfl (v8 p.nonce) (by kernel_rfl) (by rw [v8_length, PO.out.nonce]; exact size_nonce) (at_part H 2 rfl (by rw [v8_length, PO.out.nonce]; exact h2.out)) (hK _ _ ?_)))
 refine (oderive_c G H HK.out PO.out.nonce PO.out.epoch).mono ?_; rintro e w' ⟨rfl, H⟩
 rw [← HY.out]
 go_wp2_with ((with_reducible refine wpList_op rfl ?_); intro _ hK; first
  | (refine wp_alloc_sl 192 rfl info_keys H (fun KB w' (H : At w0 (raw KB KeysD.zero.cells.toArray 192 :: raw Q PktD.zero.cells.toArray 89 :: raw S SlotD.zero.cells.toArray 60 :: raw P p.cells.toArray 89 :: raw A (v8 key).toArray 41 :: F) w') _ => hK _ _ ?_))
  | (refine wp_store_row_sl 192 _ _ rfl (cells := Y.cells.toArray) rfl rfl (by rw [List.size_toArray, hYl.out]; exact size_keys) (by simpa using KeysD.cells_one) 0 H rfl (by rw [List.size_toArray, List.size_toArray, hYl.out]; rfl) (fun w' H => ?_); replace H : At w0 (raw KB Y.cells.toArray 192 :: raw Q PktD.zero.cells.toArray 89 :: raw S SlotD.zero.cells.toArray 60 :: raw P p.cells.toArray 89 :: F) w' := H.maskR [true, true, true, true, false]; refine hK _ _ ?_)
  | (refine wp_mid 192 _ rfl rfl Y.cells (by kernel_rfl) (by rw [hYl.out]; exact size_keys) (at_blk H 0 rfl) (hK _ _ ?_))
  | (refine wp_mid 89 _ rfl rfl p.cells (by kernel_rfl) (by rw [hpl.out]; exact size_pkt) (at_blk H 3 rfl) (hK _ _ ?_)))
 refine (ksum_c G H HYO.out PO.out).mono ?_; rintro e w' ⟨rfl, H⟩
 rw [HT.out]
 go_wp2_with ((with_reducible refine wpList_op rfl ?_); intro _ hK; first
  | (refine wp_alloc_sl 58 rfl info_mact H (fun M w' (H : At w0 (raw M (v8 (zs 16)).toArray 58 :: raw KB Y.cells.toArray 192 :: raw Q PktD.zero.cells.toArray 89 :: raw S SlotD.zero.cells.toArray 60 :: raw P p.cells.toArray 89 :: F) w') _ => hK _ _ ?_))
  | (refine wp_sta 58 _ _ rfl (bs := zs 16) (cs := T) rfl rfl (by rw [hTl.out]; exact size_mact) 0 H rfl (by rw [hTl.out, zs_length]) (fun w' (H : At w0 (raw M (v8 T).toArray 58 :: raw KB Y.cells.toArray 192 :: raw Q PktD.zero.cells.toArray 89 :: raw S SlotD.zero.cells.toArray 60 :: raw P p.cells.toArray 89 :: F) w') => hK _ _ ?_)))
 refine wpM_begin [] ((At w0 (raw M (v8 T).toArray 58 :: raw KB Y.cells.toArray 192 :: raw Q PktD.zero.cells.toArray 89 :: raw S SlotD.zero.cells.toArray 60 :: raw P p.cells.toArray 89 :: F))) [(0, 2), (1, 2), (2, 2), (3, 0), (4, 2)] rfl (by kernel_rfl) (by kernel_rfl) ((H.drew)) ?_
 intro ops hOps hS
 replace H := H.drew
 iterate 3 refine fm hOps ?_
 refine wpM_next hOps rfl rfl ?_
 intro K hK
 refine wp_call _ _ _ rfl Tryz.func90 rfl (by kernel_rfl) ?_
 simp only [List.map_toArray, List.map_cons, List.map_nil, Act.eval, Array.getD_eq_getD_getElem?, List.getElem?_toArray, List.getElem?_cons_zero, List.getElem?_cons_succ, Option.getD_some]
 refine (same_c H (see_blk 0 rfl hTl.out.symm) (see_part 4 rfl PO.out.mac.symm (Nat.le_refl _) h3.out) (by rw [hTl.out]; omega) (by rw [hTl.out, PO.out.mac]) (by rw [hTl.out]; omega)).mono ?_; rintro e w' ⟨rfl, H⟩
 rw [HE.out]
 have hS := (H)
 refine hK _ _ (.inr hS) ?_
 clear hK K
 simp only [nrm]
 refine fm hOps ?_
 refine wpM_end ?_
 clear hOps hS ops
 replace H : At w0 (raw KB Y.cells.toArray 192 :: raw Q PktD.zero.cells.toArray 89 :: raw S SlotD.zero.cells.toArray 60 :: raw P p.cells.toArray 89 :: F) w' := H.tail
 go_wp2_with ((with_reducible refine wpList_op rfl ?_); intro _ hK; (refine wp_alloc_sl 196 rfl info_a384 H (fun B w' (H : At w0 (raw B (v8 (zs 384)).toArray 196 :: raw KB Y.cells.toArray 192 :: raw Q PktD.zero.cells.toArray 89 :: raw S SlotD.zero.cells.toArray 60 :: raw P p.cells.toArray 89 :: F) w') _ => hK _ _ ?_)))
 refine wpM_begin [3] ((At w0 (raw B (v8 (zs 384)).toArray 196 :: raw KB Y.cells.toArray 192 :: raw Q PktD.zero.cells.toArray 89 :: raw S SlotD.zero.cells.toArray 60 :: raw P p.cells.toArray 89 :: F))) [(0, 2), (1, 2), (2, 2), (3, 0)] rfl (by kernel_rfl) (by kernel_rfl) ((H.drew)) ?_
 intro ops hOps hS
 replace H := H.drew
 iterate 3 refine fm hOps ?_
 refine wpM_next hOps rfl rfl ?_
 intro K hK
 refine wp_copy_in (e := 5) _ _ _ _ rfl (by kernel_rfl) (by kernel_rfl) rfl rfl 0 H rfl (cs := v8 p.head) (by rw [v8_length, PO.out.head]; rfl) (fun j v hj => by rw [Addr.add_lit]; exact at_part H 4 rfl (by rw [v8_length, PO.out.head]; exact h4.out) j v hj) (by rw [v8_length, v8_length, PO.out.head, zs_length]; omega) (v8_one _) (fun w' H => ?_)
 rw [copy_head PO.out.head] at H
 replace H : At w0 (raw B (v8 (p.head ++ zs 64)).toArray 196 :: raw KB Y.cells.toArray 192 :: raw Q PktD.zero.cells.toArray 89 :: raw S SlotD.zero.cells.toArray 60 :: raw P p.cells.toArray 89 :: F) w' := H
 refine hK _ _ (.inl (by decide)) ?_
 clear hK K
 simp only [nrm]
 refine wpM_end ?_
 clear hOps hS ops
 go_wp2_with fail
 refine wpM_begin [] ((At w0 (raw B (v8 (p.head ++ zs 64)).toArray 196 :: raw KB Y.cells.toArray 192 :: raw Q PktD.zero.cells.toArray 89 :: raw S SlotD.zero.cells.toArray 60 :: raw P p.cells.toArray 89 :: F))) [(0, 2), (1, 1), (2, 0), (3, 0), (4, 0)] rfl (by kernel_rfl) (by kernel_rfl) ((H.drew)) ?_
 intro ops hOps hS
 replace H := H.drew
 refine fm hOps ?_
 refine wpM_take hOps hS rfl (fun _ _ _ h => h) (yl_mid rfl 192 _ rfl rfl Y.cells (by kernel_rfl) (by rw [hYl.out]; exact size_keys) (fun w hw => at_blk hw 1 rfl)) ?_
 simp only [nrm]
 refine wpM_next hOps rfl rfl ?_
 intro K hK
 refine wp_call _ _ _ rfl Tryz.func92 rfl (by kernel_rfl) ?_
 simp only [List.map_toArray, List.map_cons, List.map_nil, Act.eval, Array.getD_eq_getD_getElem?, List.getElem?_toArray, List.getElem?_cons_zero, List.getElem?_cons_succ, Option.getD_some]
 refine (kheads_c G H HYO.out).mono ?_; rintro e w' ⟨ha, hq, rfl, H⟩
 have hsl := Lib.hid (headsOf_length HYO.out)
 rw [hsl.out] at H ⊢
 have hS := (H.tail)
 refine hK _ _ (.inr hS) ?_
 clear hK K
 simp only [nrm]
 refine wpM_next hOps rfl rfl ?_
 intro K hK
 refine wp_call _ _ _ rfl Tryz.func91 rfl (by kernel_rfl) ?_
 simp only [List.map_toArray, List.map_cons, List.map_nil, Act.eval, Array.getD_eq_getD_getElem?, List.getElem?_toArray, List.getElem?_cons_zero, List.getElem?_cons_succ, Option.getD_some]
 refine (xor_c H (see_blk (bs := p.head ++ zs 64) 1 rfl (by rw [List.length_append, PO.out.head, zs_length])) (see_own el_u8 H 0 hsl.out.symm rfl) (by rw [List.length_append, PO.out.head, zs_length]; omega) (by rw [List.length_append, PO.out.head, zs_length, hsl.out]; omega) (by rw [hsl.out]; omega)).mono ?_; rintro e w' ⟨X, rfl, H⟩
 rw [HZ.out, hZl.out] at H
 rw [HZ.out, hZl.out]
 have hS := (H.tail.tail)
 refine hK _ _ (.inr hS) ?_
 clear hK K
 simp only [nrm]
 refine wpM_next hOps rfl rfl ?_
 intro K hK
 refine wp_run rfl ?_
 have hS := (hS)
 refine hK _ _ (.inr hS) ?_
 clear hK K
 simp only [nrm]
 refine wpM_end ?_
 clear hOps hS ops
 replace H : At w0 (lrow 5 1 c8 (.slice (some ⟨X, 0, none⟩) 384 384) Z :: raw KB Y.cells.toArray 192 :: raw Q PktD.zero.cells.toArray 89 :: raw S SlotD.zero.cells.toArray 60 :: raw P p.cells.toArray 89 :: F) w' := H.maskR [true, false, false, true, true, true, true]
 go_wp2_with ((with_reducible refine wpList_op rfl ?_); intro _ hK; first
  | (refine wp_arr 200 _ rfl under_b64' rfl (by omega) (hK _ _ ?_))
  | (refine wp_mid 200 _ rfl (b := X) (off := 0) rfl (v8 (Z.take 64)) (by kernel_rfl) (by rw [v8_length, hZ64.out]; exact size_b64) (see_range H (see_own el_u8 H 0 hZl.out.symm rfl) 64) (hK _ _ ?_)))
 refine (decode_c H hZ64.out).mono ?_; rintro e w' ⟨rfl, H⟩
 rw [hDS.out, hDE.out]
 go_wp2_with ((with_reducible refine wpList_op rfl ?_); intro _ hK; first
  | (refine wp_alloc_sl 60 rfl info_slot H (fun D w' (H : At w0 (raw D SlotD.zero.cells.toArray 60 :: lrow 5 1 c8 (.slice (some ⟨X, 0, none⟩) 384 384) Z :: raw KB Y.cells.toArray 192 :: raw Q PktD.zero.cells.toArray 89 :: raw S SlotD.zero.cells.toArray 60 :: raw P p.cells.toArray 89 :: F) w') _ => hK _ _ ?_))
  | (refine wp_store_row_sl 60 _ _ rfl (cells := s.cells.toArray) rfl rfl (by rw [List.size_toArray, hsc.out]; exact size_slot) (by simpa using SlotD.cells_one) 0 H rfl (by rw [List.size_toArray, List.size_toArray, hsc.out]; rfl) (fun w' (H : At w0 (raw D s.cells.toArray 60 :: lrow 5 1 c8 (.slice (some ⟨X, 0, none⟩) 384 384) Z :: raw KB Y.cells.toArray 192 :: raw Q PktD.zero.cells.toArray 89 :: raw S SlotD.zero.cells.toArray 60 :: raw P p.cells.toArray 89 :: F) w') => hK _ _ ?_)))
 refine wpM_begin [14] ((fun w => At w0 (raw D s.cells.toArray 60 :: lrow 5 1 c8 (.slice (some ⟨X, 0, none⟩) 384 384) Z :: raw KB Y.cells.toArray 192 :: raw Q PktD.zero.cells.toArray 89 :: raw S SlotD.zero.cells.toArray 60 :: raw P p.cells.toArray 89 :: F) w)) [(0, 2), (1, 1), (2, 2), (3, 1), (4, 2), (5, 1), (6, 2), (7, 1), (8, 2), (9, 2), (10, 2), (11, 1), (12, 2), (13, 0), (14, 0)] rfl (by kernel_rfl) (by kernel_rfl) ((H.drew)) ?_
 intro ops hOps hS
 replace H := H.drew
 refine fm hOps ?_
 refine tm hOps hS (fun w hw => at_raw hw 0 rfl (v := .int .u16 (s.who : Int)) rfl) ?_
 refine fm hOps ?_
 refine tm hOps hS (fun w hw => at_raw hw 0 rfl (v := .int .u32 (s.epoch : Int)) rfl) ?_
 refine fm hOps ?_
 refine wpM_take hOps hS rfl (fun _ _ _ h => h) (yl_mid rfl 57 _ rfl rfl (v8 s.nonce) (by kernel_rfl) (by rw [v8_length, SO.out.nonce]; exact size_nonce) (fun w hw => at_part hw 0 rfl (by rw [v8_length, SO.out.nonce]; exact g1.out))) ?_
 simp only [nrm]
 refine fm hOps ?_
 refine wpM_take hOps hS rfl (fun _ _ _ h => h) (yl_mid rfl 58 _ rfl rfl (v8 s.mac) (by kernel_rfl) (by rw [v8_length, SO.out.mac]; exact size_mact) (fun w hw => at_part hw 0 rfl (by rw [v8_length, SO.out.mac]; exact g2.out))) ?_
 simp only [nrm]
 iterate 2 refine fm hOps ?_
 refine wpM_free hOps rfl (fun _ _ _ h => h) (yl_arr rfl 86 _ rfl under_a320 rfl (by omega)) ?_
 simp only [nrm]
 refine wpM_take hOps hS rfl (fun _ _ _ h => h) (yl_mid rfl 86 _ rfl (b := X) (off := 64) rfl (v8 V) (by kernel_rfl) (by rw [v8_length, hVl.out]; exact size_a320) (fun w hw => by have h := see_own el_u8 hw 1 hZl.out.symm rfl; obtain ⟨_, _, _, _, hr⟩ := h.cells hw; have hr := hr X 0 rfl; intro j v hj; rw [← HV.out] at hj; have := hr (64 + j) v (by rw [cl_c8, ← hj]; unfold v8; rw [List.map_drop, List.getElem?_drop]); simpa using this)) ?_
 simp only [nrm]
 refine wpM_free hOps rfl (fun _ _ _ h => h) (Hg.yl_build rfl 89 _ rfl (by rw [Array.toList_map]; rfl) HB1.out) ?_
 simp only [nrm]
 refine wpM_next hOps rfl rfl ?_
 intro K hK
 refine wp_alloc_sl 89 rfl info_pkt H (fun N w' H _ => ?_)
 replace H : At w0 (raw N PktD.zero.cells.toArray 89 :: raw D s.cells.toArray 60 :: lrow 5 1 c8 (.slice (some ⟨X, 0, none⟩) 384 384) Z :: raw KB Y.cells.toArray 192 :: raw Q PktD.zero.cells.toArray 89 :: raw S SlotD.zero.cells.toArray 60 :: raw P p.cells.toArray 89 :: F) w' := H
 have hS := (H.tail)
 refine hK _ _ (.inr hS) ?_
 clear hK K
 simp only [nrm]
 refine wpM_next hOps rfl rfl ?_
 intro K hK
 refine wp_store_row_sl 89 _ _ rfl (cells := q1.cells.toArray) rfl rfl (by rw [List.size_toArray, hq1l.out]; exact size_pkt) (by simpa using PktD.cells_one) 0 H rfl (by rw [List.size_toArray, List.size_toArray, hq1l.out]; rfl) (fun w' H => ?_)
 refine hK _ _ (.inl (by decide)) ?_
 clear hK K
 simp only [nrm]
 refine wpM_end ?_
 clear hOps hS ops
 replace H : At w0 (raw N q1.cells.toArray 89 :: raw D s.cells.toArray 60 :: raw KB Y.cells.toArray 192 :: raw Q PktD.zero.cells.toArray 89 :: raw S SlotD.zero.cells.toArray 60 :: raw P p.cells.toArray 89 :: F) w' := H.maskR [true, true, false, true, true, true, true]
 go_wp2_with fail
 refine wpM_begin [8] ((fun w => At w0 (raw N q1.cells.toArray 89 :: raw D s.cells.toArray 60 :: raw KB Y.cells.toArray 192 :: raw Q PktD.zero.cells.toArray 89 :: raw S SlotD.zero.cells.toArray 60 :: raw P p.cells.toArray 89 :: F) w)) [(0, 2), (1, 2), (2, 1), (3, 0), (4, 0), (5, 2), (6, 1), (7, 2), (8, 0)] rfl (by kernel_rfl) (by kernel_rfl) ((H.drew)) ?_
 intro ops hOps hS
 replace H := H.drew
 iterate 2 refine fm hOps ?_
 refine wpM_take hOps hS rfl (fun _ _ _ h => h) (yl_mid rfl 192 _ rfl rfl Y.cells (by kernel_rfl) (by rw [hYl.out]; exact size_keys) (fun w hw => at_blk hw 2 rfl)) ?_
 simp only [nrm]
 refine wpM_next hOps rfl rfl ?_
 intro K hK
 refine wp_call _ _ _ rfl Tryz.func94 rfl (by kernel_rfl) ?_
 simp only [List.map_toArray, List.map_cons, List.map_nil, Act.eval, Array.getD_eq_getD_getElem?, List.getElem?_toArray, List.getElem?_cons_zero, List.getElem?_cons_succ, Option.getD_some]
 refine (kbodies_c G H HYO.out).mono ?_; rintro e w' ⟨ba, bq, rfl, H⟩
 have hbl := Lib.hid (bodiesOf_length HYO.out)
 rw [hbl.out] at H ⊢
 have hS := (H.tail)
 refine hK _ _ (.inr hS) ?_
 clear hK K
 simp only [nrm]
 refine wpM_next hOps rfl rfl ?_
 intro K hK
 refine wp_call _ _ _ rfl Tryz.func91 rfl (by kernel_rfl) ?_
 simp only [List.map_toArray, List.map_cons, List.map_nil, Act.eval, Array.getD_eq_getD_getElem?, List.getElem?_toArray, List.getElem?_cons_zero, List.getElem?_cons_succ, Option.getD_some]
 refine (xor_c H (see_part 6 rfl PO.out.body.symm (Nat.le_refl _) h5.out) (see_own el_u8 H 0 hbl.out.symm rfl) (by rw [PO.out.body]; omega) (by rw [PO.out.body, hbl.out]; omega) (by rw [hbl.out]; omega)).mono ?_; rintro e w' ⟨X2, rfl, H⟩
 rw [HU.out, hUl.out] at H
 rw [HU.out, hUl.out]
 have hS := (H.tail.tail)
 refine hK _ _ (.inr hS) ?_
 clear hK K
 simp only [nrm]
 refine wpM_up (S' := fun w => At w0 (lrow 5 1 c8 (.slice (some ⟨X2, 0, none⟩) 256 256) U :: raw N q1.cells.toArray 89 :: raw D s.cells.toArray 60 :: raw KB Y.cells.toArray 192 :: raw Q PktD.zero.cells.toArray 89 :: raw S SlotD.zero.cells.toArray 60 :: raw P p.cells.toArray 89 :: F) w) (fun w h => h.tail) ?_
 replace H : At w0 (lrow 5 1 c8 (.slice (some ⟨X2, 0, none⟩) 256 256) U :: raw N q1.cells.toArray 89 :: raw D s.cells.toArray 60 :: raw KB Y.cells.toArray 192 :: raw Q PktD.zero.cells.toArray 89 :: raw S SlotD.zero.cells.toArray 60 :: raw P p.cells.toArray 89 :: F) w' := H.maskR [true, false, true, true, true, true, true, true]
 replace hS := H
 refine wpM_free hOps rfl (fun _ _ _ h => h) (yl_arr rfl 87 _ rfl under_a256 rfl (by omega)) ?_
 simp only [nrm]
 refine wpM_take hOps hS rfl (fun _ _ _ h => h) (yl_mid rfl 87 _ rfl (b := X2) (off := 0) rfl (v8 U) (by kernel_rfl) (by rw [v8_length, hUl.out]; exact size_a256) (fun w hw => by have h := see_range hw (see_own el_u8 hw 0 hUl.out.symm rfl) 256; rwa [List.take_of_length_le (by rw [hUl.out]; omega)] at h)) ?_
 simp only [nrm]
 refine fm hOps ?_
 refine wpM_next hOps rfl rfl ?_
 intro K hK
 refine wp_store_mid_sl 87 _ _ rfl (b := N) (off := 354) (cells := v8 U) rfl rfl (by rw [v8_length, hUl.out]; exact size_a256) (v8_one U) 1 H rfl (by rw [List.size_toArray, v8_length, hUl.out, hq1l.out]; omega) (fun w' H => ?_)
 refine hK _ _ (.inl (by decide)) ?_
 clear hK K
 simp only [nrm]
 refine wpM_end ?_
 clear hOps hS ops
 rw [List.toList_toArray, HB2.out] at H
 replace H : At w0 (raw N q2.cells.toArray 89 :: raw D s.cells.toArray 60 :: raw Q PktD.zero.cells.toArray 89 :: raw S SlotD.zero.cells.toArray 60 :: F) w' := H.maskR [false, true, true, false, true, true, false]
 go_wp2_with fail
 refine wpM_begin [] ((fun w => At w0 (raw N q2.cells.toArray 89 :: raw D s.cells.toArray 60 :: []) w)) [(0, 1), (1, 1), (2, 0), (3, 0), (4, 0)] rfl (by kernel_rfl) (by kernel_rfl) (((H.mask [true, true] : At w0 (raw N q2.cells.toArray 89 :: raw D s.cells.toArray 60 :: []) _).drew)) ?_
 intro ops hOps hS
 replace H := H.drew
 refine wpM_take hOps hS rfl (fun _ _ _ h => h) (yl_mid rfl 60 _ rfl rfl s.cells (by kernel_rfl) (by rw [hsc.out]; exact size_slot) (fun w hw => at_blk hw 1 rfl)) ?_
 simp only [nrm]
 refine wpM_take hOps hS rfl (fun _ _ _ h => h) (yl_mid rfl 89 _ rfl rfl q2.cells (by kernel_rfl) (by rw [hq2l.out]; exact size_pkt) (fun w hw => at_blk hw 0 rfl)) ?_
 simp only [nrm]
 refine wpM_next hOps rfl rfl ?_
 intro K hK
 refine wp_store_row_sl 60 _ _ rfl (cells := s.cells.toArray) rfl rfl (by rw [List.size_toArray, hsc.out]; exact size_slot) (by simpa using SlotD.cells_one) 3 H rfl (by rw [List.size_toArray, List.size_toArray, hsc.out]; rfl) (fun w' H => ?_)
 replace H : At w0 (raw N q2.cells.toArray 89 :: raw D s.cells.toArray 60 :: raw Q PktD.zero.cells.toArray 89 :: raw S s.cells.toArray 60 :: F) w' := H
 have hS := ((H.mask [true, true] : At w0 (raw N q2.cells.toArray 89 :: raw D s.cells.toArray 60 :: []) _))
 refine hK _ _ (.inr hS) ?_
 clear hK K
 simp only [nrm]
 refine wpM_next hOps rfl rfl ?_
 intro K hK
 refine wp_store_row_sl 89 _ _ rfl (cells := q2.cells.toArray) rfl rfl (by rw [List.size_toArray, hq2l.out]; exact size_pkt) (by simpa using PktD.cells_one) 2 H rfl (by rw [List.size_toArray, List.size_toArray, hq2l.out]; rfl) (fun w' H => ?_)
 replace H : At w0 (raw N q2.cells.toArray 89 :: raw D s.cells.toArray 60 :: raw Q q2.cells.toArray 89 :: raw S s.cells.toArray 60 :: F) w' := H
 have hS := ((H.mask [true, true] : At w0 (raw N q2.cells.toArray 89 :: raw D s.cells.toArray 60 :: []) _))
 refine hK _ _ (.inr hS) ?_
 clear hK K
 simp only [nrm]
 refine wpM_next hOps rfl rfl ?_
 intro K hK
 refine wp_run rfl ?_
 have hS := (hS)
 refine hK _ _ (.inr hS) ?_
 clear hK K
 simp only [nrm]
 refine wpM_end ?_
 clear hOps hS ops
 replace H := H.tail.tail
 go_wp2_with fail
 exact bodyPost_ret (v := .tuple #[.agg s.cells.toArray, .agg q2.cells.toArray, .int .i64 0]) (results_row2_tmp rfl _ rfl (at_blk H 1 rfl) (by kernel_rfl) (by rw [hsc.out]; exact size_slot) rfl (at_blk H 0 rfl) (by kernel_rfl) (by rw [hq2l.out]; exact size_pkt) rfl) rfl ⟨rfl, H.tail.tail⟩
theorem peel_c {w0 w : World} {F : List SP} {key : List (BitVec 8)} {p : PktD} (G : Glob w0) (H : At w0 F w) (hk : key.length = 32) (po : p.ok) :
    Calls Tryz.prog 52 #[.agg (v8 key).toArray, .agg p.cells.toArray] w fun r w' => r = .returned (.tuple #[.agg (peelOf key p).1.cells.toArray, .agg (peelOf key p).2.1.cells.toArray, .int .i64 ((peelOf key p).2.2 : Nat)]) ∧ At w0 F w' := by
 by_cases hm : macOf key p = p.mac
 · cases hd : SlotD.dec ((openOf key p).take 64) with
   | none => rw [peelOf_none hm hd]; exact peel_none G H hk po hm hd
   | some s => rw [peelOf_some hm hd]; exact peel_some G H hk po hm hd
 · rw [peelOf_mac hm]; exact peel_bad G H hk po hm
end Go.Proofs.YtmflbekabkainaaGreatDoor
