import Derived.Test.YtmflbekabkainaaGreatDoorQOnion
set_option linter.unusedVariables false
set_option linter.unusedSimpArgs false
namespace Go.Proofs.YtmflbekabkainaaGreatDoor
open Go.RowKit Go.Hg
theorem seeP_three {w0 : World} {F : List SP} (q : Nat) {b : Nat} {u v s : Value} {t : TypeId} {x y z : List (BitVec 8)} (hk : F[q]? = some (raw b [u, v, s].toArray t)) (hu : SeeB w0 F u x) (hv : SeeB w0 F v y) (hs : SeeB w0 F s z) : SeeP w0 F (.slice (some ⟨b, 0, none⟩) 3 3) [x, y, z] := by
 refine seeP_raw q hk rfl fun i a bs h1 h2 => ?_
 match i with
 | 0 => cases h1; cases h2; exact hu
 | 1 => cases h1; cases h2; exact hv
 | 2 => cases h1; cases h2; exact hs
 | i + 3 => simp at h1
set_option maxRecDepth 10000 in
set_option maxHeartbeats 2000000 in
theorem ksum_c {w0 w : World} {F : List SP} {k : KeysD} {p : PktD} (G : Glob w0) (H : At w0 F w) (ko : k.ok) (po : p.ok) :
    Calls Tryz.prog 89 #[.agg k.cells.toArray, .agg p.cells.toArray] w fun r w' => r = .returned (.agg (v8 (sumOf k p)).toArray) ∧ At w0 F w' := by
 have KO := Lib.hid ko
 have PO := Lib.hid po
 have h1 := Lib.hid (KeysD.part_mac ko)
 have h2 := Lib.hid (PktD.part_nonce po)
 have h3 := Lib.hid (PktD.part_head po)
 have h4 := Lib.hid (PktD.part_body po)
 have hwho := Lib.hid (show (p.who : Int) < 18446744073709551616 by have := po.who; omega)
 have hep := Lib.hid (show (p.epoch : Int) < 18446744073709551616 by have := po.epoch; omega)
 obtain ⟨T, hT⟩ : ∃ T, T = sumOf k p := ⟨_, rfl⟩
 have hTl := Lib.hid (show T.length = 16 by rw [hT]; exact sumOf_length _ _)
 have hTe := Lib.hid (show (hmacOf k.mac [beN 2 p.who ++ beN 4 p.epoch ++ p.nonce, p.head, p.body].flatten).take 16 = T by rw [hT]; unfold sumOf; simp)
 rw [← hT]
 clear ko po hT
 go_enter Tryz.func89, Tryz.ntmps89
 go_wp2_with ((with_reducible refine wpList_op rfl ?_); intro _ hK; first
  | (refine wp_box_sl (v := .agg k.cells.toArray) 192 _ rfl rfl H (fun A w' (H : At w0 (raw A k.cells.toArray 192 :: F) w') _ => hK _ _ ?_))
  | (refine wp_box_sl (v := .agg p.cells.toArray) 89 _ rfl rfl H (fun P w' (H : At w0 (raw P p.cells.toArray 89 :: raw A k.cells.toArray 192 :: F) w') _ => hK _ _ ?_))
  | (refine wp_alloc_sl 58 rfl info_mact H (fun O w' (H : At w0 (raw O (v8 (zs 16)).toArray 58 :: raw P p.cells.toArray 89 :: raw A k.cells.toArray 192 :: F) w') _ => hK _ _ ?_))
  | (refine wp_box_sl (v := .agg #[.slice none 0 0]) 172 _ rfl rfl H (fun W w' H _ => ?_); replace H := wri_new H; replace H : At w0 (wri W [] :: raw O (v8 (zs 16)).toArray 58 :: raw P p.cells.toArray 89 :: raw A k.cells.toArray 192 :: F) w' := H; refine hK _ _ ?_))
 refine wpM_begin [19] ((fun w => At w0 (raw P p.cells.toArray 89 :: raw A k.cells.toArray 192 :: F) w)) [(0, 2), (1, 1), (2, 2), (3, 2), (4, 1), (6, 2), (7, 1), (9, 2), (10, 2), (13, 2), (14, 2), (15, 2), (16, 2), (5, 0), (8, 0), (11, 0), (12, 0), (17, 0), (18, 0), (19, 0)] rfl (by kernel_rfl) (by kernel_rfl) ((H.drew.tail.tail)) ?_
 intro ops hOps hS
 replace H := H.drew
 refine fm hOps ?_
 refine wpM_take hOps hS rfl (fun _ _ _ h => h) (yl_mid rfl 41 _ rfl rfl (v8 k.mac) (by kernel_rfl) (by rw [v8_length, KO.out.mac]; exact size_key) (fun w hw => at_part hw 1 rfl (by rw [v8_length, KO.out.mac]; exact h1.out))) ?_
 simp only [nrm]
 iterate 2 refine fm hOps ?_
 refine tm hOps hS (fun w hw => at_raw hw 0 rfl (v := .int .u16 (p.who : Int)) rfl) ?_
 refine fm hOps ?_
 refine tm hOps hS (fun w hw => at_raw hw 0 rfl (v := .int .u32 (p.epoch : Int)) rfl) ?_
 iterate 6 refine fm hOps ?_
 refine wpM_next hOps rfl rfl ?_
 intro K hK
 refine wp_call _ _ _ rfl Tryz.func72 rfl (by kernel_rfl) ?_
 simp only [List.map_toArray, List.map_cons, List.map_nil, Act.eval, Array.getD_eq_getD_getElem?, List.getElem?_toArray, List.getElem?_cons_zero, List.getElem?_cons_succ, Option.getD_some]
 refine (wu16_c H hwho.out (by simp)).mono ?_; rintro e w' ⟨rfl, H⟩
 have hS := (H.tail.tail)
 refine hK _ _ (.inr hS) ?_
 clear hK K
 simp only [nrm]
 refine wpM_next hOps rfl rfl ?_
 intro K hK
 refine wp_call _ _ _ rfl Tryz.func73 rfl (by kernel_rfl) ?_
 simp only [List.map_toArray, List.map_cons, List.map_nil, Act.eval, Array.getD_eq_getD_getElem?, List.getElem?_toArray, List.getElem?_cons_zero, List.getElem?_cons_succ, Option.getD_some]
 refine (wu32_c H hep.out (by simp [beN_length])).mono ?_; rintro e w' ⟨rfl, H⟩
 rw [List.nil_append] at H
 have hS := (H.tail.tail)
 refine hK _ _ (.inr hS) ?_
 clear hK K
 simp only [nrm]
 refine wpM_next hOps rfl rfl ?_
 intro K hK
 refine wp_call _ _ _ rfl Tryz.func74 rfl (by kernel_rfl) ?_
 simp only [List.map_toArray, List.map_cons, List.map_nil, Act.eval, Array.getD_eq_getD_getElem?, List.getElem?_toArray, List.getElem?_cons_zero, List.getElem?_cons_succ, Option.getD_some]
 refine (wbytes_c (xs := p.nonce) H (see_part 1 rfl PO.out.nonce.symm (Nat.le_refl _) h2.out) (by simp [beN_length, PO.out.nonce])).mono ?_; rintro e w' ⟨rfl, H⟩
 have hS := (H.tail.tail)
 refine hK _ _ (.inr hS) ?_
 clear hK K
 simp only [nrm]
 refine wpM_next hOps rfl rfl ?_
 intro K hK
 refine wp_call _ _ _ rfl Tryz.func75 rfl (by kernel_rfl) ?_
 simp only [List.map_toArray, List.map_cons, List.map_nil, Act.eval, Array.getD_eq_getD_getElem?, List.getElem?_toArray, List.getElem?_cons_zero, List.getElem?_cons_succ, Option.getD_some]
 refine (wdone_c H (by simp [beN_length, PO.out.nonce])).mono ?_; rintro e w' ⟨za, zq, rfl, H⟩
 obtain ⟨Z, hZ⟩ : ∃ Z, Z = beN 2 p.who ++ beN 4 p.epoch ++ p.nonce := ⟨_, rfl⟩
 have hZl := Lib.hid (show Z.length = 22 by rw [hZ]; simp [beN_length, PO.out.nonce])
 rw [← hZ] at H hTe ⊢
 rw [hZl.out] at H ⊢
 clear hZ
 have hS := (H.tail.tail.tail)
 refine hK _ _ (.inr hS) ?_
 clear hK K
 simp only [nrm]
 refine wpM_next hOps rfl rfl ?_
 intro K hK
 refine wp_list1 _ under_parts info_bytes _ _ rfl [.slice za 22 zq, .slice (some ⟨P, 34, none⟩) 320 320, .slice (some ⟨P, 354, none⟩) 256 256] rfl (by decide) (by decide) (by rw [Array.toList_map]; rfl) (by simp [Value.oneCell']) H (fun L w' H => ?_)
 have hS := (H.tail.tail.tail.tail)
 refine hK _ _ (.inr hS) ?_
 clear hK K
 simp only [nrm]
 refine wpM_next hOps rfl rfl ?_
 intro K hK
 refine wp_call _ _ _ rfl Tryz.func116 rfl (by kernel_rfl) ?_
 simp only [List.map_toArray, List.map_cons, List.map_nil, Act.eval, Array.getD_eq_getD_getElem?, List.getElem?_toArray, List.getElem?_cons_zero, List.getElem?_cons_succ, Option.getD_some]
 refine (short_c G H KO.out.mac (seeP_three (x := Z) (y := p.head) (z := p.body) 0 rfl (see_own el_u8 H 1 hZl.out.symm rfl) (see_part 4 rfl PO.out.head.symm (Nat.le_refl _) h3.out) (see_part 4 rfl PO.out.body.symm (Nat.le_refl _) h4.out)) (by show 3 ≤ 1000; omega) (by simp [hZl.out, PO.out.head, PO.out.body])).mono ?_; rintro e w' ⟨rfl, H⟩
 rw [hTe.out]
 have hS := (H.tail.tail.tail.tail)
 refine hK _ _ (.inr hS) ?_
 clear hK K
 simp only [nrm]
 refine wpM_next hOps rfl rfl ?_
 intro K hK
 refine wp_sta 58 _ _ rfl (bs := zs 16) (cs := T) rfl rfl (by rw [hTl.out]; exact size_mact) 3 H rfl (by rw [hTl.out, zs_length]) (fun w' H => ?_)
 refine hK _ _ (.inl (by decide)) ?_
 clear hK K
 simp only [nrm]
 refine wpM_end ?_
 clear hOps hS ops
 replace H := H.maskR [false, false, false, true, false, false]
 replace H : At w0 (raw O (v8 T).toArray 58 :: F) w' := H
 go_wp2_with fail
 exact bodyPost_ret (v := .agg (v8 T).toArray) (results_row rfl _ rfl (at_blk H 0 rfl) (by kernel_rfl) (by rw [v8_length, hTl.out]; exact size_mact)) rfl ⟨rfl, H.tail⟩
set_option maxRecDepth 10000 in
set_option maxHeartbeats 2000000 in
theorem otag_c {w0 w : World} {F : List SP} {key nonce : List (BitVec 8)} {epoch : Nat} (G : Glob w0) (H : At w0 F w) (hk : key.length = 32) (hn : nonce.length = 16) (he : epoch < 4294967296) :
    Calls Tryz.prog 55 #[.agg (v8 key).toArray, .int .u32 (epoch : Int), .agg (v8 nonce).toArray] w fun r w' => r = .returned (.agg (v8 (tagOf key epoch nonce)).toArray) ∧ At w0 F w' := by
 have HK := Lib.hid hk
 have HN := Lib.hid hn
 have HE := Lib.hid he
 obtain ⟨K, hKe⟩ : ∃ K, K = keysOf key epoch nonce := ⟨_, rfl⟩
 have KO := Lib.hid (show K.ok by rw [hKe]; exact keysOf_ok _ _ _)
 have h1 := Lib.hid (KeysD.part_tag KO.out)
 have hT : tagOf key epoch nonce = K.tag.take 16 := by rw [hKe]; rfl
 have hTl := Lib.hid (show (K.tag.take 16).length = 16 by rw [List.length_take, KO.out.tag]; rfl)
 rw [hT]
 have HKE := Lib.hid hKe
 clear hk hn he hKe hT
 have h16 := Lib.hid (show (K.cells.drop 96).take 16 = v8 (K.tag.take 16) by
  have h := h1.out
  have : (K.cells.drop 96).take 16 = ((K.cells.drop 96).take 32).take 16 := by rw [List.take_take]; rfl
  rw [this, h]
  unfold v8
  rw [List.map_take])
 go_enter Tryz.func55, Tryz.ntmps55
 go_wp2_with ((with_reducible refine wpList_op rfl ?_); intro _ hK; first
  | (refine wp_box_sl (v := .agg (v8 key).toArray) 41 _ rfl rfl H (fun A w' (H : At w0 (raw A (v8 key).toArray 41 :: F) w') _ => hK _ _ ?_))
  | (refine wp_box_sl (v := .agg (v8 nonce).toArray) 57 _ rfl rfl H (fun N w' (H : At w0 (raw N (v8 nonce).toArray 57 :: raw A (v8 key).toArray 41 :: F) w') _ => hK _ _ ?_))
  | (refine wp_alloc_sl 104 rfl info_tagt H (fun O w' (H : At w0 (raw O (v8 (zs 16)).toArray 104 :: raw N (v8 nonce).toArray 57 :: raw A (v8 key).toArray 41 :: F) w') _ => hK _ _ ?_))
  | (refine wp_lda 41 _ rfl rfl (by kernel_rfl) (by rw [HK.out]; exact size_key) 2 H rfl (hK _ _ ?_))
  | (refine wp_lda 57 _ rfl rfl (by kernel_rfl) (by rw [HN.out]; exact size_nonce) 1 H rfl (hK _ _ ?_)))
 refine (oderive_c G H HK.out HN.out HE.out).mono ?_; rintro e w' ⟨rfl, H⟩
 rw [← HKE.out]
 go_wp2_with ((with_reducible refine wpList_op rfl ?_); intro _ hK; first
  | (refine wp_alloc_sl 192 rfl info_keys H (fun B w' (H : At w0 (raw B KeysD.zero.cells.toArray 192 :: raw O (v8 (zs 16)).toArray 104 :: raw N (v8 nonce).toArray 57 :: raw A (v8 key).toArray 41 :: F) w') _ => hK _ _ ?_))
  | (refine wp_store_row_sl 192 _ _ rfl (cells := K.cells.toArray) rfl rfl (by rw [List.size_toArray, KeysD.cells_length KO.out]; exact size_keys) (by simpa using KeysD.cells_one) 0 H rfl (by rw [List.size_toArray, List.size_toArray, KeysD.cells_length KO.out]; rfl) (fun w' (H : At w0 (raw B K.cells.toArray 192 :: raw O (v8 (zs 16)).toArray 104 :: raw N (v8 nonce).toArray 57 :: raw A (v8 key).toArray 41 :: F) w') => hK _ _ ?_))
  | (refine wp_arr 104 _ rfl under_tagt rfl (by omega) (hK _ _ ?_))
  | (refine wp_mid 104 _ rfl (b := B) (off := 96) rfl (v8 (K.tag.take 16)) (by kernel_rfl) (by rw [v8_length, hTl.out]; exact size_tagt) (at_part H 0 rfl (by rw [v8_length, hTl.out]; exact h16.out)) (hK _ _ ?_))
  | (refine wp_sta 104 _ _ rfl (cs := K.tag.take 16) rfl rfl (by rw [hTl.out]; exact size_tagt) 1 H rfl (by rw [hTl.out, zs_length]) (fun w' H => ?_); replace H := H.maskR [false, true, false, false]; replace H : At w0 (raw O (v8 (K.tag.take 16)).toArray 104 :: F) w' := H; refine hK _ _ ?_))
 exact bodyPost_ret (v := .agg (v8 (K.tag.take 16)).toArray) (results_row rfl _ rfl (at_blk H 0 rfl) (by kernel_rfl) (by rw [v8_length, hTl.out]; exact size_tagt)) rfl ⟨rfl, H.tail⟩
end Go.Proofs.YtmflbekabkainaaGreatDoor
