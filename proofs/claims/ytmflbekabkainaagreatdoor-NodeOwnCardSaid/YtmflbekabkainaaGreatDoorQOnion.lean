import Derived.Test.YtmflbekabkainaaGreatDoorQHgC
import Derived.Test.YtmflbekabkainaaGreatDoorQSlotC
set_option linter.unusedVariables false
set_option linter.unusedSimpArgs false
namespace Go.Proofs.YtmflbekabkainaaGreatDoor
open Go.RowKit Go.Hg
theorem info_keys : (Tryz.prog.info? 192).map (fun i => (i.zero, i.size, i.bytes)) = some (some (.agg KeysD.zero.cells.toArray), 128, 128) := by kernel_rfl
theorem size_keys : (Tryz.prog.info? 192).map (·.size) = some 128 := by kernel_rfl
theorem info_pkt : (Tryz.prog.info? 89).map (fun i => (i.zero, i.size, i.bytes)) = some (some (.agg PktD.zero.cells.toArray), 610, 616) := by kernel_rfl
theorem size_pkt : (Tryz.prog.info? 89).map (·.size) = some 610 := by kernel_rfl
theorem size_nonce : (Tryz.prog.info? 57).map (·.size) = some 16 := by kernel_rfl
theorem size_tagt : (Tryz.prog.info? 104).map (·.size) = some 16 := by kernel_rfl
theorem under_tagt : Tryz.prog.underlying 104 = some (.array 16 5) := by kernel_rfl
theorem info_tagt : (Tryz.prog.info? 104).map (fun i => (i.zero, i.size, i.bytes)) = some (some (.agg (v8 (zs 16)).toArray), 16, 16) := by kernel_rfl
theorem places_keys : placesOf Tryz.prog 192 = some (KeysD.zero.cells, KeysD.places) := by kernel_rfl
theorem places_pkt : placesOf Tryz.prog 89 = some (PktD.zero.cells, PktD.places) := by kernel_rfl
set_option maxRecDepth 10000 in
set_option maxHeartbeats 1000000 in
theorem derive1_c {w0 w : World} {F : List SP} {A B N el eq : Nat} {ea : Option Addr} {key e nonce : List (BitVec 8)} {tN : TypeId} (s : ByteArray) (G : Glob w0)
    (H : At w0 (raw A (v8 key).toArray 41 :: raw B #[.slice ea el eq] 33 :: lrow 5 1 c8 (.slice ea el eq) e :: raw N (v8 nonce).toArray tN :: F) w) (hk : key.length = 32) (he : el = e.length) (hs : s.size ≤ 100) (hel : e.length ≤ 100) (hn : nonce.length = 16) :
    Calls Tryz.prog 114 #[.string s, .pointer (some ⟨A, 0, none⟩), .pointer (some ⟨B, 0, none⟩), .pointer (some ⟨N, 0, none⟩)] w fun r w' => r = .returned (.agg (v8 (deriveOf key [labB s, e, nonce])).toArray) ∧ At w0 (raw A (v8 key).toArray 41 :: raw B #[.slice ea el eq] 33 :: lrow 5 1 c8 (.slice ea el eq) e :: raw N (v8 nonce).toArray tN :: F) w' := by
 have HK := Lib.hid hk
 have HE := Lib.hid he
 have HN := Lib.hid hn
 have HS := Lib.hid hs
 obtain ⟨T, hT⟩ : ∃ T, T = deriveOf key [labB s, e, nonce] := ⟨_, rfl⟩
 rw [← hT]
 have HT := Lib.hid hT
 have hTl := Lib.hid (show T.length = 32 by rw [hT]; exact deriveOf_length _ _)
 have hsz := Lib.hid (show (sized [labB s, e, nonce]).length ≤ 1000000 by simp [sized, beN_length, labB_length, hn]; omega)
 clear hk he hn hs hel hT
 go_enter Tryz.func114, Tryz.ntmps114
 go_wp2_with ((with_reducible refine wpList_op rfl ?_); intro _ hK; refine wp_alloc_sl 41 rfl info_key H (fun O w' (H : At w0 (raw O (v8 (zs 32)).toArray 41 :: raw A (v8 key).toArray 41 :: raw B #[.slice ea el eq] 33 :: lrow 5 1 c8 (.slice ea el eq) e :: raw N (v8 nonce).toArray tN :: F) w') _ => hK _ _ ?_))
 refine wpM_begin [6] ((At w0 (raw O (v8 (zs 32)).toArray 41 :: raw A (v8 key).toArray 41 :: raw B #[.slice ea el eq] 33 :: lrow 5 1 c8 (.slice ea el eq) e :: raw N (v8 nonce).toArray tN :: F))) [(0, 1), (1, 2), (2, 1), (3, 2), (4, 0), (5, 0), (6, 0)] rfl (by kernel_rfl) (by kernel_rfl) ((H.drew)) ?_
 intro ops hOps hS
 replace H := H.drew
 refine wpM_take hOps hS rfl (fun _ _ _ h => h) (yl_lda rfl 41 _ rfl rfl (by kernel_rfl) (by rw [HK.out]; exact size_key) (fun w hw => at_blk hw 1 rfl)) ?_
 simp only [nrm]
 refine fm hOps ?_
 refine tm hOps hS (fun w hw => at_raw hw 2 rfl (cs := [.slice ea el eq]) (j := 0) rfl) ?_
 refine fm hOps ?_
 refine wpM_next hOps rfl rfl ?_
 intro K hK
 refine wp_list1 _ under_parts info_bytes _ _ rfl [.slice ea el eq, .slice (some ⟨N, 0, none⟩) 16 16] rfl (by decide) (by decide) (by rw [Array.toList_map]; rfl) (by simp [Value.oneCell']) H (fun L w' H => ?_)
 have hS := (H.tail)
 refine hK _ _ (.inr hS) ?_
 clear hK K
 simp only [nrm]
 refine wpM_next hOps rfl rfl ?_
 intro K hK
 refine wp_call _ _ _ rfl Tryz.func115 rfl (by kernel_rfl) ?_
 simp only [List.map_toArray, List.map_cons, List.map_nil, Act.eval, Array.getD_eq_getD_getElem?, List.getElem?_toArray, List.getElem?_cons_zero, List.getElem?_cons_succ, Option.getD_some]
 refine (derive_c s G H HK.out (by have := HS.out; omega) (seeP_two (x := e) (y := nonce) 0 rfl (see_own el_u8 H 4 HE.out rfl) (see_blk 5 rfl HN.out.symm)) (by show 2 ≤ 1000; omega) hsz.out).mono ?_; rintro e w' ⟨rfl, H⟩
 rw [← HT.out]
 have hS := (H.tail)
 refine hK _ _ (.inr hS) ?_
 clear hK K
 simp only [nrm]
 refine wpM_next hOps rfl rfl ?_
 intro K hK
 refine wp_sta 41 _ _ rfl (bs := zs 32) (cs := T) rfl rfl (by rw [hTl.out]; exact size_key) 1 H rfl (by rw [hTl.out, zs_length]) (fun w' H => ?_)
 refine hK _ _ (.inl (by decide)) ?_
 clear hK K
 simp only [nrm]
 refine wpM_end ?_
 clear hOps hS ops
 replace H := H.tail
 replace H : At w0 (raw O (v8 T).toArray 41 :: raw A (v8 key).toArray 41 :: raw B #[.slice ea el eq] 33 :: lrow 5 1 c8 (.slice ea el eq) e :: raw N (v8 nonce).toArray tN :: F) w' := H
 go_wp2_with fail
 exact bodyPost_ret (v := .agg (v8 T).toArray) (results_row rfl _ rfl (at_blk H 0 rfl) (by kernel_rfl) (by rw [v8_length, hTl.out]; exact size_key)) rfl ⟨rfl, H.tail⟩
set_option maxRecDepth 10000 in
set_option maxHeartbeats 1000000 in
theorem oderive_c {w0 w : World} {F : List SP} {key nonce : List (BitVec 8)} {epoch : Nat} (G : Glob w0) (H : At w0 F w) (hk : key.length = 32) (hn : nonce.length = 16) (he : epoch < 4294967296) :
    Calls Tryz.prog 88 #[.agg (v8 key).toArray, .int .u32 (epoch : Int), .agg (v8 nonce).toArray] w fun r w' => r = .returned (.agg (keysOf key epoch nonce).cells.toArray) ∧ At w0 F w' := by
 have HK := Lib.hid hk
 have HN := Lib.hid hn
 have hen : (epoch : Int) < 18446744073709551616 := by omega
 have HEN := Lib.hid hen
 obtain ⟨k1, hk1⟩ : ∃ k, k = deriveOf key [labB sHead, beN 4 epoch, nonce] := ⟨_, rfl⟩
 obtain ⟨k2, hk2⟩ : ∃ k, k = deriveOf key [labB sBody, beN 4 epoch, nonce] := ⟨_, rfl⟩
 obtain ⟨k3, hk3⟩ : ∃ k, k = deriveOf key [labB sMac, beN 4 epoch, nonce] := ⟨_, rfl⟩
 obtain ⟨k4, hk4⟩ : ∃ k, k = deriveOf key [labB sTag, beN 4 epoch, nonce] := ⟨_, rfl⟩
 obtain ⟨T, hT⟩ : ∃ T, T = keysOf key epoch nonce := ⟨_, rfl⟩
 have hTk : T = KeysD.mk k1 k2 k3 k4 := by rw [hT, hk1, hk2, hk3, hk4]; rfl
 have hok := Lib.hid (show T.ok by rw [hT]; exact keysOf_ok _ _ _)
 rw [← hT]
 have HT := Lib.hid hTk
 have h1 := Lib.hid hk1
 have h2 := Lib.hid hk2
 have h3 := Lib.hid hk3
 have h4 := Lib.hid hk4
 clear hk hn he hen hT hk1 hk2 hk3 hk4 hTk
 go_enter Tryz.func88, Tryz.ntmps88
 go_wp2_with ((with_reducible refine wpList_op rfl ?_); intro _ hK; first
  | (refine wp_box_sl (v := .agg (v8 key).toArray) 41 _ rfl rfl H (fun A w' (H : At w0 (raw A (v8 key).toArray 41 :: F) w') _ => hK _ _ ?_))
  | (refine wp_box_sl (v := .agg (v8 nonce).toArray) 57 _ rfl rfl H (fun N w' (H : At w0 (raw N (v8 nonce).toArray 57 :: raw A (v8 key).toArray 41 :: F) w') _ => hK _ _ ?_))
  | (refine wp_alloc_sl 192 rfl info_keys H (fun O w' (H : At w0 (raw O KeysD.zero.cells.toArray 192 :: raw N (v8 nonce).toArray 57 :: raw A (v8 key).toArray 41 :: F) w') _ => hK _ _ ?_))
  | (refine wp_box_sl (v := .agg #[.slice none 0 0]) 172 _ rfl rfl H (fun p w' H _ => ?_); replace H := wri_new H; replace H : At w0 (wri p [] :: raw O KeysD.zero.cells.toArray 192 :: raw N (v8 nonce).toArray 57 :: raw A (v8 key).toArray 41 :: F) w' := H; refine hK _ _ ?_))
 refine (wu32_c H HEN.out (by simp)).mono ?_; rintro e w' ⟨rfl, H⟩
 rw [List.nil_append] at H
 obtain ⟨E, hE⟩ : ∃ E, E = beN 4 epoch := ⟨_, rfl⟩
 have hEl := Lib.hid (show E.length = 4 by rw [hE]; exact beN_length _ _)
 rw [← hE] at H h1 h2 h3 h4
 clear hE
 go_wp2_with fail
 refine (wdone_c H (by rw [hEl.out]; omega)).mono ?_; rintro e w' ⟨ea, eq, rfl, H⟩
 rw [hEl.out] at H ⊢
 go_wp2_with ((with_reducible refine wpList_op rfl ?_); intro _ hK; first
  | (refine wp_alloc_sl 33 rfl info_bytes H (fun B w' (H : At w0 (raw B #[.slice none 0 0] 33 :: lrow 5 1 c8 (.slice ea 4 eq) E :: wri p E :: raw O KeysD.zero.cells.toArray 192 :: raw N (v8 nonce).toArray 57 :: raw A (v8 key).toArray 41 :: F) w') _ => hK _ _ ?_))
  | (refine wp_store_sl 33 _ _ rfl (off := 0) (v := .slice ea 4 eq) rfl rfl (by kernel_rfl) rfl 0 H rfl (by show 0 < 1; omega) (fun w' (H : At w0 (raw B #[.slice ea 4 eq] 33 :: lrow 5 1 c8 (.slice ea 4 eq) E :: wri p E :: raw O KeysD.zero.cells.toArray 192 :: raw N (v8 nonce).toArray 57 :: raw A (v8 key).toArray 41 :: F) w') => hK _ _ ?_)))
 replace H : At w0 (raw A (v8 key).toArray 41 :: raw B #[.slice ea 4 eq] 33 :: lrow 5 1 c8 (.slice ea 4 eq) E :: raw N (v8 nonce).toArray 57 :: wri p E :: raw O KeysD.zero.cells.toArray 192 :: F) w' := (((((((H).pull 3 rfl).pull 3 rfl).pull 4 rfl).pull 4 rfl).pull 4 rfl).pull 5 rfl)
 refine (derive1_c sHead G H HK.out hEl.out.symm (by decide) (by rw [hEl.out]; omega) HN.out).mono ?_; rintro e w' ⟨rfl, H⟩
 rw [← h1.out]
 go_wp2_with fail
 refine (derive1_c sBody G H HK.out hEl.out.symm (by decide) (by rw [hEl.out]; omega) HN.out).mono ?_; rintro e w' ⟨rfl, H⟩
 rw [← h2.out]
 go_wp2_with fail
 refine (derive1_c sMac G H HK.out hEl.out.symm (by decide) (by rw [hEl.out]; omega) HN.out).mono ?_; rintro e w' ⟨rfl, H⟩
 rw [← h3.out]
 go_wp2_with fail
 refine (derive1_c sTag G H HK.out hEl.out.symm (by decide) (by rw [hEl.out]; omega) HN.out).mono ?_; rintro e w' ⟨rfl, H⟩
 rw [← h4.out]
 have hb := run_buildL places_keys [(0, .agg (v8 k1).toArray), (1, .agg (v8 k2).toArray), (2, .agg (v8 k3).toArray), (3, .agg (v8 k4).toArray)] (KeysD.build_all (k := KeysD.mk k1 k2 k3 k4) (by rw [← HT.out]; exact hok.out))
 rw [← HT.out] at hb
 have HB := Lib.hid hb
 clear hb h1 h2 h3 h4
 go_wp2_with ((with_reducible refine wpList_op rfl ?_); intro _ hK; first
  | (refine Hg.wp_build 192 _ rfl (by rw [Array.toList_map]; rfl) (HB.out _) (hK _ _ ?_))
  | (refine wp_store_row_sl 192 _ _ rfl (cells := T.cells.toArray) rfl rfl (by rw [List.size_toArray, KeysD.cells_length hok.out]; exact size_keys) (by simpa using KeysD.cells_one) 5 H rfl (by rw [List.size_toArray, List.size_toArray, KeysD.cells_length hok.out]; rfl) (fun w' H => ?_); replace H := H.maskR [false, false, false, false, false, true]; replace H : At w0 (raw O T.cells.toArray 192 :: F) w' := H; refine hK _ _ ?_))
 exact bodyPost_ret (v := .agg T.cells.toArray) (results_row rfl _ rfl (at_blk H 0 rfl) (by kernel_rfl) (by rw [KeysD.cells_length hok.out]; exact size_keys)) rfl ⟨rfl, H.tail⟩
set_option maxRecDepth 10000 in
set_option maxHeartbeats 1000000 in
theorem kheads_c {w0 w : World} {F : List SP} {k : KeysD} (G : Glob w0) (H : At w0 F w) (o : k.ok) :
    Calls Tryz.prog 92 #[.agg k.cells.toArray] w (NewB w0 F (headsOf k)) := by
 have HO := Lib.hid o
 have h1 := Lib.hid (KeysD.part_head o)
 have hsl := Lib.hid (headsOf_length o)
 obtain ⟨T, hT⟩ : ∃ T, T = headsOf k := ⟨_, rfl⟩
 rw [← hT] at hsl ⊢
 have HT := Lib.hid hT
 clear o hT
 go_enter Tryz.func92, Tryz.ntmps92
 go_wp2_with ((with_reducible refine wpList_op rfl ?_); intro _ hK; first
  | (refine wp_box_sl (v := .agg k.cells.toArray) 192 _ rfl rfl H (fun A w' (H : At w0 (raw A k.cells.toArray 192 :: F) w') _ => hK _ _ ?_))
  | (refine wp_mid 41 _ rfl (b := A) (off := 0) rfl (v8 k.head) (by kernel_rfl) (by rw [v8_length, HO.out.head]; exact size_key) (at_part H 0 rfl (by rw [v8_length, HO.out.head]; exact h1.out)) (hK _ _ ?_)))
 refine (cstream_c (nonce := zs 12) (n := 384) G H HO.out.head (zs_length _) (by omega)).mono ?_; rintro e w' ⟨a, q, rfl, H⟩
 rw [show streamOf k.head (zs 12) 384 = T from HT.out.symm, hsl.out] at H
 rw [show streamOf k.head (zs 12) 384 = T from HT.out.symm, hsl.out]
 go_wp2_with fail
 go_ret
 exact ⟨a, q, by rw [hsl.out]; rfl, by rw [hsl.out]; exact H.maskR [true, false]⟩
set_option maxRecDepth 10000 in
set_option maxHeartbeats 1000000 in
theorem kbodies_c {w0 w : World} {F : List SP} {k : KeysD} (G : Glob w0) (H : At w0 F w) (o : k.ok) :
    Calls Tryz.prog 94 #[.agg k.cells.toArray] w (NewB w0 F (bodiesOf k)) := by
 have HO := Lib.hid o
 have h1 := Lib.hid (KeysD.part_body o)
 have hsl := Lib.hid (bodiesOf_length o)
 obtain ⟨T, hT⟩ : ∃ T, T = bodiesOf k := ⟨_, rfl⟩
 rw [← hT] at hsl ⊢
 have HT := Lib.hid hT
 clear o hT
 go_enter Tryz.func94, Tryz.ntmps94
 go_wp2_with ((with_reducible refine wpList_op rfl ?_); intro _ hK; first
  | (refine wp_box_sl (v := .agg k.cells.toArray) 192 _ rfl rfl H (fun A w' (H : At w0 (raw A k.cells.toArray 192 :: F) w') _ => hK _ _ ?_))
  | (refine wp_mid 41 _ rfl (b := A) (off := 32) rfl (v8 k.body) (by kernel_rfl) (by rw [v8_length, HO.out.body]; exact size_key) (at_part H 0 rfl (by rw [v8_length, HO.out.body]; exact h1.out)) (hK _ _ ?_)))
 refine (cstream_c (nonce := zs 12) (n := 256) G H HO.out.body (zs_length _) (by omega)).mono ?_; rintro e w' ⟨a, q, rfl, H⟩
 rw [show streamOf k.body (zs 12) 256 = T from HT.out.symm, hsl.out] at H
 rw [show streamOf k.body (zs 12) 256 = T from HT.out.symm, hsl.out]
 go_wp2_with fail
 go_ret
 exact ⟨a, q, by rw [hsl.out]; rfl, by rw [hsl.out]; exact H.maskR [true, false]⟩
end Go.Proofs.YtmflbekabkainaaGreatDoor
