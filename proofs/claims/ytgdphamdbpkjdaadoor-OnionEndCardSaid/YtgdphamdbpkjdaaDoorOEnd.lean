/-
  Chapter 11: OnionEnd: the MAC and the Tag do not hang on the packet's own MAC.
-/
import Derived.Test.YtgdphamdbpkjdaaDoorShown
import Derived.Test.YtgdphamdbpkjdaaDoorCard
namespace Go.Proofs.YtgdphamdbpkjdaaDoor
open Go.ChangeShapes Go.WideShapes Go.ChangeAt Go.RowKit Go.Hg
set_option linter.unusedSimpArgs false
set_option linter.unusedVariables false
theorem flat_mac : flatK Tryd.prog 4 36 = some (List.replicate 16 (.i .u8)) := by kernel_rfl
theorem eql_mac {a : List (BitVec 8)} (ha : a.length = 16) (w : World) (o : Oper) (ρ : Operand → Value) (x y : Operand) (yt : TypeId) (ho : o.op = .binOp .eql 36 x y yt) (hx : ρ x = .agg (v8 a).toArray) (hy : ρ y = .agg (v8 a).toArray) : (execOp ρ o).run Tryd.prog w = .ok (.value (.bool true)) w := by
  rw [exec_eql_flat (m := 4) ho hx hy (by omega) (by kernel_rfl) (by kernel_rfl) flat_mac (by kernel_rfl) (by kernel_rfl) (fits_v8n ha) (fits_v8n ha), eqB_refl]
theorem eql_tag {a : List (BitVec 8)} (ha : a.length = 16) (w : World) (o : Oper) (ρ : Operand → Value) (x y : Operand) (yt : TypeId) (ho : o.op = .binOp .eql 62 x y yt) (hx : ρ x = .agg (v8 a).toArray) (hy : ρ y = .agg (v8 a).toArray) : (execOp ρ o).run Tryd.prog w = .ok (.value (.bool true)) w := by
  rw [exec_eql_flat (m := 4) (ks := List.replicate 16 (.i .u8)) ho hx hy (by omega) (by kernel_rfl) (by kernel_rfl) (by kernel_rfl) (by kernel_rfl) (by kernel_rfl) (fits_v8n ha) (fits_v8n ha), eqB_refl]
theorem peel_e {key : List (BitVec 8)} {p : PktD} (h : macOf key p = p.mac) : (peelOf key p).2.2 ≠ 4 := by
  unfold peelOf
  rw [if_neg (by simpa using h)]
  split <;> simp
set_option maxRecDepth 10000 in
set_option maxHeartbeats 4000000 in
theorem onionEnd_c {w0 w : World} {F : List SP} {key mac : List (BitVec 8)} {p : PktD} (G : Glob w0) (H : At w0 F w) (hk : key.length = 32) (po : p.ok) (hm : mac.length = 16) : Calls Tryd.prog 8 #[.agg (v8 key).toArray, .agg p.cells.toArray, .agg (v8 mac).toArray] w fun r w' => r = .returned (.bool true) ∧ At w0 F w' := by
  obtain ⟨T, hT⟩ : ∃ T, T = macOf key p := ⟨_, rfl⟩
  obtain ⟨U, hU⟩ : ∃ U, U = tagOf key p.epoch p.nonce := ⟨_, rfl⟩
  obtain ⟨p2, h2⟩ : ∃ q : PktD, q = { p with mac := mac } := ⟨_, rfl⟩
  obtain ⟨p3, h3⟩ : ∃ q : PktD, q = { p2 with mac := T } := ⟨_, rfl⟩
  have hTl := Lib.hid (show T.length = 16 by rw [hT]; exact sumOf_length _ _)
  have hUl := Lib.hid (show U.length = 16 by rw [hU]; unfold tagOf; rw [List.length_take, (keysOf_ok _ _ _).tag]; rfl)
  have po2 : p2.ok := by rw [h2]; exact ⟨po.who, po.epoch, po.nonce, hm, po.head, po.body⟩
  have po3 : p3.ok := by rw [h3]; exact ⟨po2.who, po2.epoch, po2.nonce, hTl.out, po2.head, po2.body⟩
  have m2 : macOf key p2 = T := by rw [hT, h2]; rfl
  have m3 : macOf key p3 = p3.mac := by rw [h3, h2]; exact hT.symm
  have s2 := Lib.hid (show p.cells.take 18 ++ v8 mac ++ p.cells.drop (18 + (v8 mac).length) = p2.cells by rw [h2]; exact PktD.put_mac po.nonce po.mac hm)
  have s3 := Lib.hid (show p2.cells.take 18 ++ v8 T ++ p2.cells.drop (18 + (v8 T).length) = p3.cells by rw [h3]; exact PktD.put_mac po2.nonce po2.mac hTl.out)
  have hn := Lib.hid (PktD.part_nonce po)
  have hn3 := Lib.hid (show (p3.cells.drop 2).take 16 = v8 p.nonce by rw [PktD.part_nonce po3, h3, h2])
  have he3 := Lib.hid (show p3.cells[1]? = some (.int .u32 (p.epoch : Int)) by rw [h3, h2]; rfl)
  have hpl := Lib.hid (PktD.cells_length po)
  have hpl2 := Lib.hid (PktD.cells_length po2)
  have hpl3 := Lib.hid (PktD.cells_length po3)
  obtain ⟨s, q, e, hpe⟩ : ∃ s q e, peelOf key p3 = (s, q, e) := ⟨_, _, _, rfl⟩
  obtain ⟨E, hE⟩ : ∃ E : Int, (e : Int) = E := ⟨_, rfl⟩
  have hne : E ≠ 4 := by
    have := peel_e m3
    rw [hpe] at this
    intro h
    apply this
    show e = 4
    omega
  have hb : decide (E = 4) = false := by simpa using hne
  have sq := peel_ok po3 hpe
  have hsl := Lib.hid (SlotD.cells_length sq.1.nonce sq.1.mac)
  have hql := Lib.hid (PktD.cells_length sq.2)
  have HK := Lib.hid hk
  have HM := Lib.hid hm
  have PO := Lib.hid po
  have PO2 := Lib.hid po2
  have PO3 := Lib.hid po3
  have M2 := Lib.hid m2
  have HPE := Lib.hid hpe
  have HE := Lib.hid hE
  have HT := Lib.hid hT
  have HU := Lib.hid hU
  have HNE := Lib.hid hne
  clear hk po hm hT hU h2 h3 po2 po3 m2 m3 hpe hE sq hne hb
  go_enter Tryd.func8, Tryd.ntmps8
  go_wp2_with ((with_reducible refine wpList_op rfl ?_); intro _ hK; first
    | (refine dst_is 3 rfl ?_; refine wp_box_sl (v := .agg (v8 key).toArray) 29 _ rfl rfl H (fun A w' (H : At w0 (raw A (v8 key).toArray 29 :: F) w') _ => hK _ _ ?_))
    | (refine dst_is 4 rfl ?_; refine wp_box_sl (v := .agg p.cells.toArray) 39 _ rfl rfl H (fun P w' (H : At w0 (raw P p.cells.toArray 39 :: raw A (v8 key).toArray 29 :: F) w') _ => hK _ _ ?_))
    | (refine dst_is 5 rfl ?_; refine wp_box_sl (v := .agg (v8 mac).toArray) 36 _ rfl rfl H (fun M w' (H : At w0 (raw M (v8 mac).toArray 36 :: raw P p.cells.toArray 39 :: raw A (v8 key).toArray 29 :: F) w') _ => hK _ _ ?_)))
  refine (shown_c G H).mono ?_; rintro e w' ⟨rfl, H⟩
  go_wp2_with ((with_reducible refine wpList_op rfl ?_); intro _ hK; first
    | (refine dst_is 15 rfl ?_; refine wp_lda 29 _ rfl (b := A) rfl (by kernel_rfl) (by rw [HK.out]; exact size_key) 2 H rfl (hK _ _ ?_))
    | (refine dst_is 16 rfl ?_; refine wp_mid 39 _ rfl (b := P) (off := 0) rfl p.cells (by kernel_rfl) (by rw [hpl.out]; exact size_pkt) (at_blk H 1 rfl) (hK _ _ ?_)))
  refine (omac_c G H HK.out PO.out).mono ?_; rintro e w' ⟨rfl, H⟩
  rw [← HT.out]
  go_wp2_with ((with_reducible refine wpList_op rfl ?_); intro _ hK; first
    | (refine dst_is 8 rfl ?_; refine wp_alloc_sl 36 rfl info_mact H (fun X w' (H : At w0 (raw X (v8 (zs 16)).toArray 36 :: raw M (v8 mac).toArray 36 :: raw P p.cells.toArray 39 :: raw A (v8 key).toArray 29 :: F) w') _ => hK _ _ ?_))
    | (refine sto_is 8 rfl ?_; refine wp_sta 36 _ _ rfl (b := X) (bs := zs 16) (cs := T) rfl rfl (by rw [hTl.out]; exact size_mact) 0 H rfl (by rw [hTl.out, zs_length]) (fun w' (H : At w0 (raw X (v8 T).toArray 36 :: raw M (v8 mac).toArray 36 :: raw P p.cells.toArray 39 :: raw A (v8 key).toArray 29 :: F) w') => hK _ _ ?_))
    | (refine dst_is 18 rfl ?_; refine wp_lda 29 _ rfl (b := A) rfl (by kernel_rfl) (by rw [HK.out]; exact size_key) 3 H rfl (hK _ _ ?_))
    | (refine dst_is 20 rfl ?_; refine wp_get 30 _ rfl rfl (by kernel_rfl) (at_raw H 2 rfl (v := .int .u32 (p.epoch : Int)) rfl) (hK _ _ ?_))
    | (refine dst_is 22 rfl ?_; refine wp_mid 32 _ rfl (b := P) (off := 2) rfl (v8 p.nonce) (by kernel_rfl) (by rw [v8_length, PO.out.nonce]; exact size_nonce) (at_part H 2 rfl (by rw [v8_length, PO.out.nonce]; exact hn.out)) (hK _ _ ?_)))
  refine (otag_c G H HK.out PO.out.nonce PO.out.epoch).mono ?_; rintro e w' ⟨rfl, H⟩
  rw [← HU.out]
  go_wp2_with ((with_reducible refine wpList_op rfl ?_); intro _ hK; first
    | (refine dst_is 9 rfl ?_; refine wp_alloc_sl 62 rfl info_tagt H (fun Y w' (H : At w0 (raw Y (v8 (zs 16)).toArray 62 :: raw X (v8 T).toArray 36 :: raw M (v8 mac).toArray 36 :: raw P p.cells.toArray 39 :: raw A (v8 key).toArray 29 :: F) w') _ => hK _ _ ?_))
    | (refine sto_is 9 rfl ?_; refine wp_sta 62 _ _ rfl (b := Y) (bs := zs 16) (cs := U) rfl rfl (by rw [hUl.out]; exact size_tagt) 0 H rfl (by rw [hUl.out, zs_length]) (fun w' (H : At w0 (raw Y (v8 U).toArray 62 :: raw X (v8 T).toArray 36 :: raw M (v8 mac).toArray 36 :: raw P p.cells.toArray 39 :: raw A (v8 key).toArray 29 :: F) w') => hK _ _ (Stop.go ?_))))
  refine Stop.un ?_
  go_wp2_with ((with_reducible refine wpList_op rfl ?_); intro _ hK; first
    | (refine dst_is 24 rfl ?_; refine wp_lda 36 _ rfl (b := M) (bs := mac) rfl (by kernel_rfl) (by rw [HM.out]; exact size_mact) 2 H rfl (hK _ _ ?_))
    | (refine sto_is 25 rfl ?_; refine wp_store_mid_sl 36 _ _ rfl (b := P) (off := 18) (cells := v8 mac) rfl rfl (by rw [v8_length, HM.out]; exact size_mact) (v8_one _) 3 H rfl (by rw [List.size_toArray, hpl.out, v8_length, HM.out]; omega) (fun w' H => ?_); rw [show ((p.cells.toArray.toList.take 18 ++ v8 mac ++ p.cells.toArray.toList.drop (18 + (v8 mac).length)).toArray) = p2.cells.toArray from congrArg List.toArray s2.out] at H; replace H : At w0 (raw Y (v8 U).toArray 62 :: raw X (v8 T).toArray 36 :: raw M (v8 mac).toArray 36 :: raw P p2.cells.toArray 39 :: raw A (v8 key).toArray 29 :: F) w' := H; refine hK _ _ ?_)
    | (refine dst_is 26 rfl ?_; refine wp_lda 29 _ rfl (b := A) rfl (by kernel_rfl) (by rw [HK.out]; exact size_key) 4 H rfl (hK _ _ ?_))
    | (refine dst_is 27 rfl ?_; refine wp_mid 39 _ rfl (b := P) (off := 0) rfl p2.cells (by kernel_rfl) (by rw [hpl2.out]; exact size_pkt) (at_blk H 3 rfl) (hK _ _ ?_)))
  refine (omac_c G H HK.out PO2.out).mono ?_; rintro e w' ⟨rfl, H⟩
  rw [M2.out]
  go_wp2_with ((with_reducible refine wpList_op rfl ?_); intro _ hK; first
    | (refine dst_is 10 rfl ?_; refine wp_alloc_sl 36 rfl info_mact H (fun Z w' (H : At w0 (raw Z (v8 (zs 16)).toArray 36 :: raw Y (v8 U).toArray 62 :: raw X (v8 T).toArray 36 :: raw M (v8 mac).toArray 36 :: raw P p2.cells.toArray 39 :: raw A (v8 key).toArray 29 :: F) w') _ => hK _ _ ?_))
    | (refine sto_is 10 rfl ?_; refine wp_sta 36 _ _ rfl (b := Z) (bs := zs 16) (cs := T) rfl rfl (by rw [hTl.out]; exact size_mact) 0 H rfl (by rw [hTl.out, zs_length]) (fun w' (H : At w0 (raw Z (v8 T).toArray 36 :: raw Y (v8 U).toArray 62 :: raw X (v8 T).toArray 36 :: raw M (v8 mac).toArray 36 :: raw P p2.cells.toArray 39 :: raw A (v8 key).toArray 29 :: F) w') => hK _ _ (Stop.go ?_))))
  refine Stop.un ?_
  go_wp2_with ((with_reducible refine wpList_op rfl ?_); intro _ hK; first
    | (refine dst_is 29 rfl ?_; refine wp_lda 36 _ rfl (b := Z) (bs := T) rfl (by kernel_rfl) (by rw [hTl.out]; exact size_mact) 0 H rfl (hK _ _ ?_))
    | (refine sto_is 30 rfl ?_; refine wp_store_mid_sl 36 _ _ rfl (b := P) (off := 18) (cells := v8 T) rfl rfl (by rw [v8_length, hTl.out]; exact size_mact) (v8_one _) 4 H rfl (by rw [List.size_toArray, hpl2.out, v8_length, hTl.out]; omega) (fun w' H => ?_); rw [show ((p2.cells.toArray.toList.take 18 ++ v8 T ++ p2.cells.toArray.toList.drop (18 + (v8 T).length)).toArray) = p3.cells.toArray from congrArg List.toArray s3.out] at H; replace H : At w0 (raw Z (v8 T).toArray 36 :: raw Y (v8 U).toArray 62 :: raw X (v8 T).toArray 36 :: raw M (v8 mac).toArray 36 :: raw P p3.cells.toArray 39 :: raw A (v8 key).toArray 29 :: F) w' := H; refine hK _ _ ?_)
    | (refine dst_is 32 rfl ?_; refine wp_lda 29 _ rfl (b := A) rfl (by kernel_rfl) (by rw [HK.out]; exact size_key) 5 H rfl (hK _ _ ?_))
    | (refine dst_is 33 rfl ?_; refine wp_mid 39 _ rfl (b := P) (off := 0) rfl p3.cells (by kernel_rfl) (by rw [hpl3.out]; exact size_pkt) (at_blk H 4 rfl) (hK _ _ ?_)))
  refine (peel_is G H HK.out PO3.out HPE.out HE.out).mono ?_; rintro e w' ⟨rfl, H⟩
  go_wp2_with ((with_reducible refine wpList_op rfl ?_); intro _ hK; first
    | (refine dst_is 11 rfl ?_; refine wp_alloc_sl 45 rfl info_slot H (fun S w' (H : At w0 (raw S SlotD.zero.cells.toArray 45 :: raw Z (v8 T).toArray 36 :: raw Y (v8 U).toArray 62 :: raw X (v8 T).toArray 36 :: raw M (v8 mac).toArray 36 :: raw P p3.cells.toArray 39 :: raw A (v8 key).toArray 29 :: F) w') _ => hK _ _ ?_))
    | (refine dst_is 12 rfl ?_; refine wp_alloc_sl 39 rfl info_pkt H (fun Q w' (H : At w0 (raw Q PktD.zero.cells.toArray 39 :: raw S SlotD.zero.cells.toArray 45 :: raw Z (v8 T).toArray 36 :: raw Y (v8 U).toArray 62 :: raw X (v8 T).toArray 36 :: raw M (v8 mac).toArray 36 :: raw P p3.cells.toArray 39 :: raw A (v8 key).toArray 29 :: F) w') _ => hK _ _ ?_))
    | (refine sto_is 11 rfl ?_; refine wp_store_row_sl 45 _ _ rfl (b := S) (cells := s.cells.toArray) rfl rfl (by rw [List.size_toArray, hsl.out]; exact size_slot) (by simpa using SlotD.cells_one) 1 H rfl (by rw [List.size_toArray, List.size_toArray, hsl.out]; rfl) (fun w' H => ?_); replace H : At w0 (raw Q PktD.zero.cells.toArray 39 :: raw Z (v8 T).toArray 36 :: raw Y (v8 U).toArray 62 :: raw X (v8 T).toArray 36 :: raw M (v8 mac).toArray 36 :: raw P p3.cells.toArray 39 :: raw A (v8 key).toArray 29 :: F) w' := H.maskR [true, false]; refine hK _ _ ?_)
    | (refine sto_is 12 rfl ?_; refine wp_store_row_sl 39 _ _ rfl (b := Q) (cells := q.cells.toArray) rfl rfl (by rw [List.size_toArray, hql.out]; exact size_pkt) (by simpa using PktD.cells_one) 0 H rfl (by rw [List.size_toArray, List.size_toArray, hql.out]; rfl) (fun w' H => ?_); replace H : At w0 (raw Z (v8 T).toArray 36 :: raw Y (v8 U).toArray 62 :: raw X (v8 T).toArray 36 :: raw M (v8 mac).toArray 36 :: raw P p3.cells.toArray 39 :: raw A (v8 key).toArray 29 :: F) w' := H.maskR [false]; refine hK _ _ (Stop.go ?_)))
  refine Stop.un ?_
  go_wp2_with fail
  refine wpM_begin [] ((At w0 (raw Z (v8 T).toArray 36 :: raw Y (v8 U).toArray 62 :: raw X (v8 T).toArray 36 :: raw M (v8 mac).toArray 36 :: raw P p3.cells.toArray 39 :: raw A (v8 key).toArray 29 :: F))) [(0, 2), (1, 2), (2, 1), (3, 1), (4, 2), (5, 2), (6, 2), (7, 2), (8, 2), (9, 2), (10, 2), (11, 1), (12, 1), (13, 2), (14, 1), (15, 2), (16, 1), (17, 0), (18, 2), (19, 2), (20, 0)] rfl (by kernel_rfl) (by kernel_rfl) ((H.drew)) ?_
  intro ops hOps hS
  replace H := H.drew
  refine wpM_free hOps rfl (fun _ _ _ h => h) (yl_move rfl _ rfl) ?_
  simp only [Act.put, Act.eval, List.setIfInBounds_toArray, List.set_cons_zero, List.set_cons_succ, Array.getD_eq_getD_getElem?, List.getElem?_toArray, List.getElem?_cons_zero, List.getElem?_cons_succ, Option.getD_some]
  refine wpM_free hOps rfl (fun _ _ _ h => h) (yl_move rfl _ rfl) ?_
  simp only [Act.put, Act.eval, List.setIfInBounds_toArray, List.set_cons_zero, List.set_cons_succ, Array.getD_eq_getD_getElem?, List.getElem?_toArray, List.getElem?_cons_zero, List.getElem?_cons_succ, Option.getD_some]
  refine wpM_take hOps hS rfl (fun _ _ _ h => h) (yl_lda rfl 36 _ rfl rfl (by kernel_rfl) (by rw [hTl.out]; exact size_mact) (fun w hw => at_blk (cs := v8 T) hw 2 rfl)) ?_
  simp only [Act.put, Act.eval, List.setIfInBounds_toArray, List.set_cons_zero, List.set_cons_succ, Array.getD_eq_getD_getElem?, List.getElem?_toArray, List.getElem?_cons_zero, List.getElem?_cons_succ, Option.getD_some]
  refine wpM_take hOps hS rfl (fun _ _ _ h => h) (yl_lda rfl 36 _ rfl rfl (by kernel_rfl) (by rw [hTl.out]; exact size_mact) (fun w hw => at_blk (cs := v8 T) hw 0 rfl)) ?_
  simp only [Act.put, Act.eval, List.setIfInBounds_toArray, List.set_cons_zero, List.set_cons_succ, Array.getD_eq_getD_getElem?, List.getElem?_toArray, List.getElem?_cons_zero, List.getElem?_cons_succ, Option.getD_some]
  refine wpM_free hOps rfl (fun _ _ _ h => h) (yl rfl (fun w _ => eql_mac hTl.out w _ _ _ _ _ rfl rfl rfl)) ?_
  simp only [Act.put, Act.eval, List.setIfInBounds_toArray, List.set_cons_zero, List.set_cons_succ, Array.getD_eq_getD_getElem?, List.getElem?_toArray, List.getElem?_cons_zero, List.getElem?_cons_succ, Option.getD_some]
  refine wpM_free hOps (v := ?vOp16) rfl (fun _ _ _ h => h) (yl rfl ?yOp16) ?_
  case yOp16 => (intro w hw; go_simp; first | done | rfl)
  simp only [Act.put, Act.eval, List.setIfInBounds_toArray, List.set_cons_zero, List.set_cons_succ, Array.getD_eq_getD_getElem?, List.getElem?_toArray, List.getElem?_cons_zero, List.getElem?_cons_succ, Option.getD_some]
  refine wpM_free hOps rfl (fun _ _ _ h => h) (yl_move rfl _ rfl) ?_
  simp only [Act.put, Act.eval, List.setIfInBounds_toArray, List.set_cons_zero, List.set_cons_succ, Array.getD_eq_getD_getElem?, List.getElem?_toArray, List.getElem?_cons_zero, List.getElem?_cons_succ, Option.getD_some]
  refine wpM_free hOps rfl (fun _ _ _ h => h) (yl_move rfl _ rfl) ?_
  simp only [Act.put, Act.eval, List.setIfInBounds_toArray, List.set_cons_zero, List.set_cons_succ, Array.getD_eq_getD_getElem?, List.getElem?_toArray, List.getElem?_cons_zero, List.getElem?_cons_succ, Option.getD_some]
  refine wpM_free hOps rfl (fun _ _ _ h => h) (yl (v := .bool true) rfl (fun w _ => by go_simp; simp [HNE.out])) ?_
  simp only [Act.put, Act.eval, List.setIfInBounds_toArray, List.set_cons_zero, List.set_cons_succ, Array.getD_eq_getD_getElem?, List.getElem?_toArray, List.getElem?_cons_zero, List.getElem?_cons_succ, Option.getD_some]
  refine wpM_free hOps (v := ?vOp26) rfl (fun _ _ _ h => h) (yl rfl ?yOp26) ?_
  case yOp26 => (intro w hw; go_simp; first | done | rfl)
  simp only [Act.put, Act.eval, List.setIfInBounds_toArray, List.set_cons_zero, List.set_cons_succ, Array.getD_eq_getD_getElem?, List.getElem?_toArray, List.getElem?_cons_zero, List.getElem?_cons_succ, Option.getD_some]
  refine wpM_free hOps rfl (fun _ _ _ h => h) (yl_move rfl _ rfl) ?_
  simp only [Act.put, Act.eval, List.setIfInBounds_toArray, List.set_cons_zero, List.set_cons_succ, Array.getD_eq_getD_getElem?, List.getElem?_toArray, List.getElem?_cons_zero, List.getElem?_cons_succ, Option.getD_some]
  refine wpM_take hOps hS rfl (fun _ _ _ h => h) (yl_lda rfl 62 _ rfl rfl (by kernel_rfl) (by rw [hUl.out]; exact size_tagt) (fun w hw => at_blk (cs := v8 U) hw 1 rfl)) ?_
  simp only [Act.put, Act.eval, List.setIfInBounds_toArray, List.set_cons_zero, List.set_cons_succ, Array.getD_eq_getD_getElem?, List.getElem?_toArray, List.getElem?_cons_zero, List.getElem?_cons_succ, Option.getD_some]
  refine wpM_take hOps hS rfl (fun _ _ _ h => h) (yl_lda rfl 29 _ rfl rfl (by kernel_rfl) (by rw [HK.out]; exact size_key) (fun w hw => at_blk (cs := v8 key) hw 5 rfl)) ?_
  simp only [Act.put, Act.eval, List.setIfInBounds_toArray, List.set_cons_zero, List.set_cons_succ, Array.getD_eq_getD_getElem?, List.getElem?_toArray, List.getElem?_cons_zero, List.getElem?_cons_succ, Option.getD_some]
  refine wpM_free hOps (v := ?vOp35) rfl (fun _ _ _ h => h) (yl rfl ?yOp35) ?_
  case yOp35 => (intro w hw; go_simp; first | done | rfl)
  simp only [Act.put, Act.eval, List.setIfInBounds_toArray, List.set_cons_zero, List.set_cons_succ, Array.getD_eq_getD_getElem?, List.getElem?_toArray, List.getElem?_cons_zero, List.getElem?_cons_succ, Option.getD_some]
  refine wpM_take hOps hS rfl (fun _ _ _ h => h) (yl_get rfl _ _ rfl rfl (by kernel_rfl) (fun w hw => at_raw hw 4 rfl he3.out)) ?_
  simp only [Act.put, Act.eval, List.setIfInBounds_toArray, List.set_cons_zero, List.set_cons_succ, Array.getD_eq_getD_getElem?, List.getElem?_toArray, List.getElem?_cons_zero, List.getElem?_cons_succ, Option.getD_some]
  refine wpM_free hOps (v := ?vOp39) rfl (fun _ _ _ h => h) (yl rfl ?yOp39) ?_
  case yOp39 => (intro w hw; go_simp; first | done | rfl)
  simp only [Act.put, Act.eval, List.setIfInBounds_toArray, List.set_cons_zero, List.set_cons_succ, Array.getD_eq_getD_getElem?, List.getElem?_toArray, List.getElem?_cons_zero, List.getElem?_cons_succ, Option.getD_some]
  refine wpM_take hOps hS rfl (fun _ _ _ h => h) (yl_mid rfl 32 _ rfl (b := P) (off := 2) rfl (v8 p.nonce) (by kernel_rfl) (by rw [v8_length, PO.out.nonce]; exact size_nonce) (fun w hw => at_part hw 4 rfl (by rw [v8_length, PO.out.nonce]; exact hn3.out))) ?_
  simp only [Act.put, Act.eval, List.setIfInBounds_toArray, List.set_cons_zero, List.set_cons_succ, Array.getD_eq_getD_getElem?, List.getElem?_toArray, List.getElem?_cons_zero, List.getElem?_cons_succ, Option.getD_some]
  refine wpM_next hOps rfl rfl ?_
  intro K hK
  refine wp_call _ _ _ rfl Tryd.func17 rfl (by kernel_rfl) ?_
  simp only [List.map_toArray, List.map_cons, List.map_nil, Act.eval, Array.getD_eq_getD_getElem?, List.getElem?_toArray, List.getElem?_cons_zero, List.getElem?_cons_succ, Option.getD_some]
  refine (otag_c G H HK.out PO.out.nonce PO.out.epoch).mono ?_; rintro e w' ⟨rfl, H⟩
  rw [← HU.out]
  have hS := (H)
  refine hK _ _ (.inr hS) ?_
  clear hK K
  simp only [Act.put, Act.eval, List.setIfInBounds_toArray, List.set_cons_zero, List.set_cons_succ, Array.getD_eq_getD_getElem?, List.getElem?_toArray, List.getElem?_cons_zero, List.getElem?_cons_succ, Option.getD_some]
  refine wpM_free hOps rfl (fun _ _ _ h => h) (yl rfl (fun w _ => eql_tag hUl.out w _ _ _ _ _ rfl rfl rfl)) ?_
  simp only [Act.put, Act.eval, List.setIfInBounds_toArray, List.set_cons_zero, List.set_cons_succ, Array.getD_eq_getD_getElem?, List.getElem?_toArray, List.getElem?_cons_zero, List.getElem?_cons_succ, Option.getD_some]
  refine wpM_free hOps (v := ?vOp47) rfl (fun _ _ _ h => h) (yl rfl ?yOp47) ?_
  case yOp47 => (intro w hw; go_simp; first | done | rfl)
  simp only [Act.put, Act.eval, List.setIfInBounds_toArray, List.set_cons_zero, List.set_cons_succ, Array.getD_eq_getD_getElem?, List.getElem?_toArray, List.getElem?_cons_zero, List.getElem?_cons_succ, Option.getD_some]
  refine wpM_next hOps rfl rfl ?_
  intro K hK
  refine wp_run rfl ?_
  have hS := (hS)
  refine hK _ _ (.inr hS) ?_
  clear hK K
  simp only [Act.put, Act.eval, List.setIfInBounds_toArray, List.set_cons_zero, List.set_cons_succ, Array.getD_eq_getD_getElem?, List.getElem?_toArray, List.getElem?_cons_zero, List.getElem?_cons_succ, Option.getD_some]
  refine wpM_end ?_
  clear hOps hS ops
  go_wp2_with fail
  exact ⟨rfl, _, results_tmp rfl _ _ _, rfl, H.maskR [false, false, false, false, false, false]⟩
theorem onionEnd_walk {W : World} {key mac : List (BitVec 8)} {p : PktD} (G : Glob W) (hk : key.length = 32) (po : p.ok) (hm : mac.length = 16) : Calls Tryd.prog 8 #[.agg (v8 key).toArray, .agg p.cells.toArray, .agg (v8 mac).toArray] W fun e w' => e = .returned (.bool true) ∧ Below W.heap.size W w' :=
  (onionEnd_c G (At.start W) hk po hm).mono fun _ _ h => ⟨h.1, h.2.below⟩
theorem onionEnd_own : ownKnob Tryd.prog.godebug = none := by kernel_rfl
theorem onionEnd_laidout : laidOutB Tryd.prog = true := by kernel_rfl
set_option maxRecDepth 100000 in
theorem onionEnd_contract (H : Type) (enc : TypeId × Value → H) (W : World) (base : Nat) (args : Array Value) (ds gs : List (DataW H)) (before : List MemPlace)
    (hval : ∀ (j : Nat) t v, Tryd.f8.params[j]? = some t → args[j]? = some v → Value.okWide Tryd.prog W .any base t v)
    (hW : DataW.Whole enc Tryd.prog Tryd.f8.params.toList Rows.onionEndSpec.vars false W args.toList ds gs before) (hL : laidMetH Tryd.prog Rows.onionEndRow.laid W) :
    Calls Tryd.prog 8 args W fun e W' => ∃ v, e = .returned v ∧ Rows.onionEndSpec.post enc Tryd.prog Tryd.f8 false true false false W args v W' := by
  have G : Glob W := glob_of_laid hL
  have hW' := hW
  obtain ⟨p, q, hA0, hV, rfl, hfz, hnd⟩ := hW
  have hA : DataW.TrodAll enc Tryd.prog W 0 (fun _ => true) true Tryd.f8.params.toList args.toList ds p := hA0
  rw [Tryd.params8] at hA hval
  obtain ⟨v0, vs0, d0, ds0, p0, q0, hargs, rfl, rfl, h0, r0⟩ := trodAll_cons hA
  obtain ⟨v1, vs1, d1, ds1, p1, q1, rfl, rfl, rfl, h1, r1⟩ := trodAll_cons r0
  obtain ⟨v2, vs2, d2, ds2, p2, q2, rfl, rfl, rfl, h2, r2⟩ := trodAll_cons r1
  obtain ⟨rfl, rfl, rfl⟩ := trodAll_nil r2
  obtain rfl : args = #[v0, v1, v2] := by cases args; simp_all
  obtain ⟨rfl, rfl⟩ := trodVars_none hV
  have k0 := h0
  have lt0 : ∀ x ∈ p0, x.block < W.heap.size := by obtain ⟨m, hm⟩ := k0; exact DataW.trod_lt m _ _ _ hm
  have k1 := h1
  have lt1 : ∀ x ∈ p1, x.block < W.heap.size := by obtain ⟨m, hm⟩ := k1; exact DataW.trod_lt m _ _ _ hm
  have k2 := h2
  have lt2 : ∀ x ∈ p2, x.block < W.heap.size := by obtain ⟨m, hm⟩ := k2; exact DataW.trod_lt m _ _ _ hm
  obtain ⟨a0, f0, rfl⟩ := open_bytes (n := 32) (by kernel_rfl) Tryd.underlying29 (hval 0 29 v0 rfl rfl) h0
  obtain ⟨a1, f1, rfl⟩ := open_pkt (by kernel_rfl) Tryd.underlying39 (hval 1 39 v1 rfl rfl) h1
  obtain ⟨a2, f2, rfl⟩ := open_bytes (n := 16) (by kernel_rfl) Tryd.underlying36 (hval 2 36 v2 rfl rfl) h2
  clear hA0
  refine (onionEnd_walk G f0 f1 f2).mono fun e W' ⟨he, bel⟩ => ?_
  subst he
  exact ⟨_, rfl, _, _, _, [], _, [], hW', trodAll_mk1 (shut_bool Tryd.underlying4 _), (trodAll_cons_mk (Below.trod onionEnd_laidout (by kernel_rfl) (of_decide_eq_true (by kernel_rfl)) k0 bel lt0) (trodAll_cons_mk (Below.trod onionEnd_laidout (by kernel_rfl) (of_decide_eq_true (by kernel_rfl)) k1 bel lt1) (trodAll_cons_mk (Below.trod onionEnd_laidout (by kernel_rfl) (of_decide_eq_true (by kernel_rfl)) k2 bel lt2) trodAll_mk0))), rfl, bel.frame _, fun h => by cases h⟩
noncomputable def onionEnd_wit : Array Value := #[.agg (v8 (zs 32)).toArray, .agg PktD.zero.cells.toArray, .agg (v8 (zs 16)).toArray]
theorem onionEnd_met (os : Os) : laidMet Tryd.prog Rows.onionEndRow.laid ((laidWorld os).forCall (fun _ _ => 0) ⟨#[], onionEnd_wit, []⟩).memory := laidMet_of_run' 8 (by kernel_rfl) (by kernel_rfl)
set_option maxRecDepth 100000 in
theorem onionEnd_lifted (os : Os) (started : os.Started) (H : Type) (enc : TypeId × Value → H) (F : Stop.Interp) :
    ReturnsInHanded {} Tryd.checked os 8 .any ((OpenSpec.ofChange Rows.onionEndSpec).preRow enc Tryd.prog Tryd.f8 Rows.onionEndRow.domain false Rows.onionEndRow.laid) (((OpenSpec.ofChange Rows.onionEndSpec).at F).post enc Tryd.prog Tryd.f8 false true false false) := by
  obtain ⟨x, hx⟩ := Option.isSome_iff_exists.1 (show (DataW.whole enc Tryd.prog ((laidWorld os).forCall (fun _ _ => 0) ⟨#[], onionEnd_wit, []⟩).memory Tryd.f8.params.toList Rows.onionEndSpec.vars false onionEnd_wit.toList 8).isSome = true by kernel_rfl)
  refine returnsInHanded_of_row (C := Tryd.checked) (s := OpenSpec.ofChange Rows.onionEndSpec) onionEnd_own started (by kernel_rfl) Tryd.func8
    (witness_row_at (enc := enc) (C := Tryd.checked) false (laidWorld os) onionEnd_wit rfl (by kernel_rfl) (by kernel_rfl) (by kernel_rfl)
      (OpenSpec.preRow_of_cond 8 hx (by kernel_rfl) (fun k hk => by cases hk) (by kernel_rfl) (onionEnd_met os))) ?_
  intro W base args ds gs before hval hW _ _ _ hL _ _
  exact onionEnd_contract H enc W base args ds gs before hval hW hL
theorem onionEnd_said : Rows.OnionEndSaid :=
  OpenClaim.holds_of_cond 8 Tryd.f8 rfl rfl rfl rfl rfl rfl rfl ⟨rfl, rfl, rfl, rfl, rfl⟩ rfl rfl rfl rfl rfl (by kernel_rfl) Tryd.func8 (by kernel_rfl)
    (of_decide_eq_true (by kernel_rfl)) (by unfold Func.isWrapper; first | (rw [if_pos (by decide +kernel)]; kernel_rfl) | (rw [if_neg (by decide +kernel)]; exact ⟨rfl, rfl⟩))
    (fun os started H enc _ F => by rw [OpenClaim.pre_eq_preRow]; exact onionEnd_lifted os started H enc F)
theorem onionEnd_plain (f : FuncId) (fn : Func) (hf : Tryd.pinned.checked.prog.funcNamed "hourglass/hourglasslaw11.OnionEnd" = some f) (hfn : Tryd.pinned.checked.prog.funcs[f]? = some fn) :
    false = Tryd.pinned.checked.prog.looks [] ∧ ∀ (j : Nat) t, fn.params[j]? = some t → Tryd.pinned.checked.prog.wantsStandIn t = false := by
  obtain rfl : f = 8 := Option.some.inj ((show Tryd.prog.funcNamed "hourglass/hourglasslaw11.OnionEnd" = some 8 by kernel_rfl).symm.trans hf) |>.symm
  obtain rfl : fn = Tryd.f8 := (Option.some.inj (Tryd.func8.symm.trans hfn)).symm
  refine ⟨by kernel_rfl, fun j t ht => ?_⟩
  have hall : ∀ t ∈ Tryd.f8.params, Tryd.prog.wantsStandIn t = false := by
    have h : (Tryd.f8.params.toList.all fun t => !Tryd.prog.wantsStandIn t) = true := by kernel_rfl
    intro t ht
    simpa using List.all_eq_true.1 h t (Array.mem_toList_iff.2 ht)
  exact hall t (Array.mem_of_getElem? ht)
/-- The card. -/
theorem onionEnd_holds : Rows.OnionEndCardSaid :=
  Claim7.holds_tied_plain_at .later [] _ _ _ _ onionEnd_said (fun _ h => by cases h) (by kernel_rfl) (fun _ h => by cases h) onionEnd_row_tie rfl ⟨rfl, rfl⟩ (by kernel_rfl) rfl onionEnd_plain (by kernel_rfl)
#print axioms onionEnd_holds
end Go.Proofs.YtgdphamdbpkjdaaDoor
