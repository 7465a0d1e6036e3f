/-
  Chapter 11: a layer is put around a packet.
-/
import Derived.Test.YtgdphamdbpkjdaaDoorHopA
namespace Go.Proofs.YtgdphamdbpkjdaaDoor
open Go.RowKit Go.Hg
set_option linter.unusedSimpArgs false
set_option linter.unusedVariables false
set_option maxRecDepth 10000 in
set_option maxHeartbeats 4000000 in
theorem wrap_bad {w0 w : World} {F : List SP} {h : HopD} {p : PktD} {s : SlotD} {ev : Value} (H : At w0 F w) (o : h.ok) (po : p.ok) (so : s.ok) (hr : s.right = false) :
    Calls Tryd.prog 21 #[.agg h.cells.toArray, .agg p.cells.toArray, .agg s.cells.toArray, ev] w fun r w' => r = .returned (.tuple #[.agg PktD.zero.cells.toArray, .int .i64 1]) ∧ At w0 F w' := by
  have HO := Lib.hid o
  have PO := Lib.hid po
  have SO := Lib.hid so
  have hs40 := Lib.hid (SlotD.cells_length so.nonce so.mac)
  have h54 := Lib.hid (HopD.cells_length o.key o.nonce)
  have HR := Lib.hid hr
  have hBl := Lib.hid (EncB_length so)
  obtain ⟨B0, hB0⟩ : ∃ B, B = EncB s := ⟨_, rfl⟩
  rw [← hB0] at hBl
  have HB0 := Lib.hid hB0
  clear o po so hr hB0
  go_enter Tryd.func21, Tryd.ntmps21
  go_wp2_with ((with_reducible refine wpList_op rfl ?_); intro _ hK; first
    | (refine wp_box_sl (v := .agg h.cells.toArray) 35 _ rfl rfl H (fun A w' (H : At w0 (raw A h.cells.toArray 35 :: F) w') _ => hK _ _ ?_))
    | (refine wp_box_sl (v := .agg p.cells.toArray) 39 _ rfl rfl H (fun P w' (H : At w0 (raw P p.cells.toArray 39 :: raw A h.cells.toArray 35 :: F) w') _ => hK _ _ ?_))
    | (refine wp_box_sl (v := .agg s.cells.toArray) 45 _ rfl rfl H (fun S w' (H : At w0 (raw S s.cells.toArray 45 :: raw P p.cells.toArray 39 :: raw A h.cells.toArray 35 :: F) w') _ => hK _ _ ?_))
    | (refine wp_alloc_sl 39 rfl info_pkt H (fun O w' (H : At w0 (raw O PktD.zero.cells.toArray 39 :: raw S s.cells.toArray 45 :: raw P p.cells.toArray 39 :: raw A h.cells.toArray 35 :: F) w') _ => hK _ _ ?_))
    | (refine wp_mid 45 _ rfl (b := S) (off := 0) rfl s.cells (by kernel_rfl) (by rw [hs40.out]; exact size_slot) (at_blk H 1 rfl) (hK _ _ ?_)))
  refine (encode_c H SO.out).mono ?_; rintro e w' ⟨rfl, H⟩
  rw [HR.out]
  rw [← HB0.out]
  go_wp2_with ((with_reducible refine wpList_op rfl ?_); intro _ hK; first
    | (refine wp_alloc_sl 82 rfl info_b64 H (fun B w' (H : At w0 (raw B (v8 (zs 64)).toArray 82 :: raw O PktD.zero.cells.toArray 39 :: raw S s.cells.toArray 45 :: raw P p.cells.toArray 39 :: raw A h.cells.toArray 35 :: F) w') _ => hK _ _ ?_))
    | (refine wp_sta 82 _ _ rfl (b := B) (bs := zs 64) (cs := B0) rfl rfl (by rw [hBl.out]; exact size_b64) 0 H rfl (by rw [hBl.out, zs_length]) (fun w' H => ?_); replace H : At w0 (raw O PktD.zero.cells.toArray 39 :: F) w' := H.maskR [false, true, false, false, false]; refine hK _ _ ?_)
    | (refine Hg.wp_build 39 _ rfl (by rw [Array.toList_map]; rfl) (run_buildL places_pkt [] rfl _) (hK _ _ ?_))
    | (refine wp_store_row_sl 39 _ _ rfl (b := O) (cells := PktD.zero.cells.toArray) rfl rfl (by kernel_rfl) (by simpa using PktD.cells_one) 0 H rfl rfl (fun w' H => ?_); replace H : At w0 (raw O PktD.zero.cells.toArray 39 :: F) w' := H; refine hK _ _ ?_))
  exact bodyPost_ret (v := .tuple #[.agg PktD.zero.cells.toArray, .int .i64 1]) (results_row_tmp rfl _ rfl (at_blk H 0 rfl) (by kernel_rfl) (by kernel_rfl) rfl) rfl ⟨rfl, H.tail⟩
set_option maxRecDepth 10000 in
set_option maxHeartbeats 4000000 in
theorem wrap_good {w0 w : World} {F : List SP} {h : HopD} {p : PktD} {s : SlotD} {ev : Value} {eb : List (BitVec 8)} (G : Glob w0) (H : At w0 F w) (o : h.ok) (po : p.ok) (so : s.ok) (hr : s.right = true) (hev : SeeB w0 F ev eb) (he : eb.length ≤ 320) {q : PktD} (hq : wrapOf h p s eb = some q) :
    Calls Tryd.prog 21 #[.agg h.cells.toArray, .agg p.cells.toArray, .agg s.cells.toArray, ev] w fun r w' => r = .returned (.tuple #[.agg q.cells.toArray, .int .i64 0]) ∧ At w0 F w' := by
  have HO := Lib.hid o
  have PO := Lib.hid po
  have SO := Lib.hid so
  have hs40 := Lib.hid (SlotD.cells_length so.nonce so.mac)
  have h54 := Lib.hid (HopD.cells_length o.key o.nonce)
  have HR := Lib.hid hr
  obtain ⟨ea, ecap, rfl, hecap, _⟩ := hev.slice
  obtain ⟨n, hn⟩ : ∃ n, n = eb.length := ⟨_, rfl⟩
  rw [← hn] at hev ⊢
  obtain ⟨k, hk⟩ : ∃ k, k = 320 - n := ⟨_, rfl⟩
  have hk1 : (320 - (n : Int)) = (k : Int) := by omega
  have hk2 : (k : Int) ≤ 320 := by omega
  have hk3 : IntKind.i64.wrap (k : Int) = (k : Int) := by rw [IntKind.wrap_i64]; omega
  have HN := Lib.hid hn
  have HK := Lib.hid hk
  have HE := Lib.hid hev
  have hkn := Lib.hid (show k + eb.length = 320 by omega)
  have g1 := Lib.hid (HopD.at_epoch (h := h) o.key)
  have g2 := Lib.hid (HopD.part_nonce (h := h) o.key o.nonce)
  have p4 := Lib.hid (PktD.part_head po)
  have p5 := Lib.hid (PktD.part_body po)
  have hB0 : EncB s = s.bytes := by unfold EncB; rw [hr]; rfl
  obtain ⟨B0, hB⟩ : ∃ B, B = s.bytes := ⟨_, rfl⟩
  have HB0 := Lib.hid (show EncB s = B0 by rw [hB0, hB])
  have hBl := Lib.hid (show B0.length = 64 by rw [hB]; exact SlotD.bytes_length so.nonce so.mac)
  obtain ⟨Y, hY⟩ : ∃ Y, Y = h.keys := ⟨_, rfl⟩
  have HY := Lib.hid hY
  have hYo := Lib.hid (show Y.ok by rw [hY]; exact keysOf_ok _ _ _)
  have hYl := Lib.hid (KeysD.cells_length hYo.out)
  obtain ⟨D, hD⟩ : ∃ D, D = p.head.take 256 := ⟨_, rfl⟩
  have hDl := Lib.hid (show D.length = 256 by rw [hD, List.length_take, po.head]; rfl)
  have hDp := Lib.hid (show (p.cells.drop 34).take 256 = v8 D by
    have h9 := PktD.part_head po
    have e9 : (p.cells.drop 34).take 256 = ((p.cells.drop 34).take 320).take 256 := by rw [List.take_take]; rfl
    rw [e9, h9, hD]
    unfold v8
    rw [List.map_take])
  obtain ⟨Z, hZ⟩ : ∃ Z, Z = xorB (B0 ++ D) (headsOf Y) := ⟨_, rfl⟩
  have HZ := Lib.hid hZ.symm
  have hZl := Lib.hid (show Z.length = 320 by rw [hZ, xorB_length, List.length_append, hBl.out, hDl.out, headsOf_length hYo.out]; rfl)
  obtain ⟨V, hV⟩ : ∃ V, V = Z.take k ++ eb := ⟨_, rfl⟩
  have HV := Lib.hid hV.symm
  have hVl := Lib.hid (show V.length = 320 by rw [hV, List.length_append, List.length_take, hZl.out]; omega)
  obtain ⟨U, hU⟩ : ∃ U, U = xorB p.body (bodiesOf Y) := ⟨_, rfl⟩
  have HU := Lib.hid hU.symm
  have hUl := Lib.hid (show U.length = 256 by rw [hU, xorB_length, po.body, bodiesOf_length hYo.out]; rfl)
  obtain ⟨q1, hq1⟩ : ∃ q, q = PktD.mk h.who h.epoch h.nonce (zs 16) V (zs 256) := ⟨_, rfl⟩
  obtain ⟨q2, hq2⟩ : ∃ q, q = PktD.mk h.who h.epoch h.nonce (zs 16) V U := ⟨_, rfl⟩
  have hq2o : q2.ok := by rw [hq2]; exact ⟨o.who, o.epoch, o.nonce, zs_length _, hVl.out, hUl.out⟩
  obtain ⟨T, hT⟩ : ∃ T, T = sumOf Y q2 := ⟨_, rfl⟩
  have HT := Lib.hid hT.symm
  have hTl := Lib.hid (show T.length = 16 by rw [hT]; exact sumOf_length _ _)
  have HQ2 := Lib.hid hq2o
  have hq3 : q = { q2 with mac := T } := by
    unfold wrapOf at hq
    rw [hr, ← hn, ← hk, ← hB, ← hD, ← hY, ← hZ, ← hV, ← hU, ← hq2, if_pos rfl] at hq
    rw [hT]
    exact (Option.some.inj hq).symm
  have hb1 := Lib.hid (run_buildL places_pkt [(0, .int .u16 (h.who : Int)), (1, .int .u32 (h.epoch : Int)), (2, .agg (v8 h.nonce).toArray), (4, .agg (v8 V).toArray)] (by rw [hq1]; exact PktD.build_some (who := h.who) (epoch := h.epoch) o.nonce hVl.out : _ = some q1.cells))
  have hb2 := Lib.hid (show q1.cells.take 354 ++ v8 U ++ q1.cells.drop (354 + (v8 U).length) = q2.cells by rw [hq1, hq2]; exact PktD.put_body (p := ⟨h.who, h.epoch, h.nonce, zs 16, V, zs 256⟩) o.nonce (zs_length _) hVl.out (zs_length _) hUl.out)
  have hb3 := Lib.hid (show q2.cells.take 18 ++ v8 T ++ q2.cells.drop (18 + (v8 T).length) = q.cells by rw [hq3]; exact PktD.put_mac hq2o.nonce hq2o.mac hTl.out)
  have hl1 := Lib.hid (show q1.cells.length = 610 by rw [hq1]; simp [PktD.cells, v8_length, o.nonce, hVl.out, zs_length])
  have hl2 := Lib.hid (PktD.cells_length hq2o)
  have hl3 := Lib.hid (show q.cells.length = 610 by rw [hq3]; simp [PktD.cells, v8_length, hq2o.nonce, hTl.out, hq2o.head, hq2o.body])
  clear o po so hr hn hk hev he hecap hB0 hB hY hD hZ hV hU hq1 hq2 hq2o hT hq hq3
  go_enter Tryd.func21, Tryd.ntmps21
  go_wp2_with ((with_reducible refine wpList_op rfl ?_); intro _ hK; first
    | (refine wp_box_sl (v := .agg h.cells.toArray) 35 _ rfl rfl H (fun A w' (H : At w0 (raw A h.cells.toArray 35 :: F) w') _ => hK _ _ ?_))
    | (refine wp_box_sl (v := .agg p.cells.toArray) 39 _ rfl rfl H (fun P w' (H : At w0 (raw P p.cells.toArray 39 :: raw A h.cells.toArray 35 :: F) w') _ => hK _ _ ?_))
    | (refine wp_box_sl (v := .agg s.cells.toArray) 45 _ rfl rfl H (fun S w' (H : At w0 (raw S s.cells.toArray 45 :: raw P p.cells.toArray 39 :: raw A h.cells.toArray 35 :: F) w') _ => hK _ _ ?_))
    | (refine wp_alloc_sl 39 rfl info_pkt H (fun O w' (H : At w0 (raw O PktD.zero.cells.toArray 39 :: raw S s.cells.toArray 45 :: raw P p.cells.toArray 39 :: raw A h.cells.toArray 35 :: F) w') _ => hK _ _ ?_))
    | (refine wp_mid 45 _ rfl (b := S) (off := 0) rfl s.cells (by kernel_rfl) (by rw [hs40.out]; exact size_slot) (at_blk H 1 rfl) (hK _ _ ?_)))
  refine (encode_c H SO.out).mono ?_; rintro e w' ⟨rfl, H⟩
  rw [HR.out]
  rw [HB0.out]
  go_wp2_with ((with_reducible refine wpList_op rfl ?_); intro _ hK; first
    | (refine wp_alloc_sl 82 rfl info_b64 H (fun B w' (H : At w0 (raw B (v8 (zs 64)).toArray 82 :: raw O PktD.zero.cells.toArray 39 :: raw S s.cells.toArray 45 :: raw P p.cells.toArray 39 :: raw A h.cells.toArray 35 :: F) w') _ => hK _ _ ?_))
    | (refine wp_sta 82 _ _ rfl (b := B) (bs := zs 64) (cs := B0) rfl rfl (by rw [hBl.out]; exact size_b64) 0 H rfl (by rw [hBl.out, zs_length]) (fun w' H => ?_); replace H : At w0 (raw B (v8 B0).toArray 82 :: raw O PktD.zero.cells.toArray 39 :: raw P p.cells.toArray 39 :: raw A h.cells.toArray 35 :: F) w' := H.maskR [true, true, false, true, true]; refine hK _ _ ?_)
    | (refine wp_mid 35 _ rfl (b := A) (off := 0) rfl h.cells (by kernel_rfl) (by rw [h54.out]; exact size_hop) (at_blk H 3 rfl) (hK _ _ ?_)))
  refine (hkeys_c G H HO.out).mono ?_; rintro e w' ⟨rfl, H⟩
  rw [← HY.out]
  go_wp2_with ((with_reducible refine wpList_op rfl ?_); intro _ hK; first
    | (refine wp_alloc_sl 73 rfl info_keys H (fun KB w' (H : At w0 (raw KB KeysD.zero.cells.toArray 73 :: raw B (v8 B0).toArray 82 :: raw O PktD.zero.cells.toArray 39 :: raw P p.cells.toArray 39 :: raw A h.cells.toArray 35 :: F) w') _ => hK _ _ ?_))
    | (refine wp_store_row_sl 73 _ _ rfl (b := KB) (cells := Y.cells.toArray) rfl rfl (by rw [List.size_toArray, hYl.out]; exact size_keys) (by simpa using KeysD.cells_one) 0 H rfl (by rw [List.size_toArray, List.size_toArray, hYl.out]; rfl) (fun w' (H : At w0 (raw KB Y.cells.toArray 73 :: raw B (v8 B0).toArray 82 :: raw O PktD.zero.cells.toArray 39 :: raw P p.cells.toArray 39 :: raw A h.cells.toArray 35 :: F) w') => hK _ _ ?_)))
  refine wpM_begin [] ((fun w => At w0 (raw KB Y.cells.toArray 73 :: raw B (v8 B0).toArray 82 :: raw O PktD.zero.cells.toArray 39 :: raw P p.cells.toArray 39 :: raw A h.cells.toArray 35 :: F) w)) [(0, 2), (1, 2), (2, 2), (3, 0), (4, 0)] rfl (by kernel_rfl) (by kernel_rfl) ((H.drew)) ?_
  intro ops hOps hS
  replace H := H.drew
  refine wpM_free hOps (v := ?vOp1480) rfl (fun _ _ _ h => h) (yl rfl ?yOp1480) ?_
  case yOp1480 => (intro w hw; go_simp; first | done | rfl)
  simp only [nrm]
  refine wpM_free hOps (v := ?vOp1482) rfl (fun _ _ _ h => h) (yl rfl ?yOp1482) ?_
  case yOp1482 => (intro w hw; go_simp; first | done | rfl)
  simp only [nrm]
  refine wpM_free hOps (v := ?vOp1484) rfl (fun _ _ _ h => h) (yl rfl ?yOp1484) ?_
  case yOp1484 => (intro w hw; go_simp; first | done | rfl)
  simp only [nrm]
  refine wpM_next hOps rfl rfl ?_
  intro K hK
  refine wp_lapp_new el_u8 50 50 under_bytes8 (.inl ⟨_, under_bytes8⟩) _ _ rfl (n := 64) (m := 256) (xs := B0) (ys := D) hBl.out.symm hDl.out.symm rfl (see_blk 1 rfl hBl.out.symm) H (x := .slice (some ⟨P, 34, none⟩) 256 320) rfl ((see_part (w0 := w0) (F := raw KB Y.cells.toArray 73 :: raw B (v8 B0).toArray 82 :: raw O PktD.zero.cells.toArray 39 :: raw P p.cells.toArray 39 :: raw A h.cells.toArray 35 :: F) 3 rfl hDl.out.symm (by omega) hDp.out).src el_u8 H) (by omega) (by simp only [maxLen]; omega) (by omega) (fun X xq w' H => ?_)
  replace H : At w0 (lrow 5 1 c8 (.slice (some ⟨X, 0, none⟩) 320 xq) (B0 ++ D) :: raw KB Y.cells.toArray 73 :: raw B (v8 B0).toArray 82 :: raw O PktD.zero.cells.toArray 39 :: raw P p.cells.toArray 39 :: raw A h.cells.toArray 35 :: F) w' := H
  have hS := (H.tail)
  refine hK _ _ (.inr hS) ?_
  clear hK K
  simp only [nrm]
  refine wpM_next hOps rfl rfl ?_
  intro K hK
  refine wp_run rfl ?_
  have hS := (hS)
  refine hK _ _ (.inr hS) ?_
  clear hK K
  simp only [nrm]
  refine wpM_end ?_
  clear hOps hS ops
  replace H : At w0 (lrow 5 1 c8 (.slice (some ⟨X, 0, none⟩) 320 xq) (B0 ++ D) :: raw KB Y.cells.toArray 73 :: raw O PktD.zero.cells.toArray 39 :: raw P p.cells.toArray 39 :: raw A h.cells.toArray 35 :: F) w' := H.maskR [true, true, false, true, true, true]
  go_wp2_with ((with_reducible refine wpList_op rfl ?_); intro _ hK; (refine wp_mid 73 _ rfl (b := KB) (off := 0) rfl Y.cells (by kernel_rfl) (by rw [hYl.out]; exact size_keys) (at_blk H 1 rfl) (hK _ _ ?_)))
  refine (kheads_c G H hYo.out).mono ?_; rintro e w' ⟨ha, hq, rfl, H⟩
  have hsl := Lib.hid (headsOf_length hYo.out)
  rw [hsl.out] at H ⊢
  have hzl := Lib.hid (show (B0 ++ D).length = 320 by rw [List.length_append, hBl.out, hDl.out])
  go_wp2_with fail
  refine (xor_c H (see_own el_u8 H 1 hzl.out.symm rfl) (see_own el_u8 H 0 hsl.out.symm rfl) (by rw [hzl.out]; omega) (by rw [hzl.out, hsl.out]; omega) (by rw [hsl.out]; omega)).mono ?_; rintro e w' ⟨J, rfl, H⟩
  rw [HZ.out, hZl.out] at H
  rw [HZ.out, hZl.out]
  replace H : At w0 (lrow 5 1 c8 (.slice (some ⟨J, 0, none⟩) 320 320) Z :: raw KB Y.cells.toArray 73 :: raw O PktD.zero.cells.toArray 39 :: raw P p.cells.toArray 39 :: raw A h.cells.toArray 35 :: F) w' := H.maskR [true, false, false, true, true, true, true]
  obtain ⟨W, hW⟩ : ∃ W, W = sliced (some ⟨J, 0, none⟩) k 320 320 1 := ⟨_, rfl⟩
  have hrun : ∀ w, (Instr.sliceAt 50 (.slice (some ⟨J, 0, none⟩) 320 320) (some (.int .i64 (k : Int))) none none).run Tryd.prog w = .ok W w := fun w => by
    rw [run_sliceAt_slice w 50 _ _ _ _ under_bytes, run_slice_l w 50 _ 320 320 under_bytes .i64 (k : Int) (by omega) (by omega), elem_bytes, hW]
    obtain ⟨z, hinf, _⟩ := el_u8.info
    obtain ⟨i, hi, hz, hsz, hby⟩ := info_of hinf
    simp [sizeOf, typeInfo, hi, hsz, Sem.run_bind]
  have HRUN := Lib.hid hrun
  have HW := Lib.hid hW
  clear hrun hW
  go_wp2_with ((with_reducible refine wpList_op rfl ?_); intro _ hK; first
    | (refine wp_slice 50 _ _ _ _ rfl (HRUN.out _) (hK _ _ ?_))
    | (refine wp_lcopy el_u8 _ _ _ _ rfl under_bytes8 (g := J) (off := 0) (cap := 320) (i := k) (n := 320) (xs := Z) (ys := eb) hZl.out.symm HW.out rfl H (HE.out.mono fun h s => sep_tail (sep_tail (sep_tail (sep_tail s)))) hkn.out (fun w' H => ?_); rw [HV.out] at H; replace H : At w0 (lrow 5 1 c8 (.slice (some ⟨J, 0, none⟩) 320 320) V :: raw KB Y.cells.toArray 73 :: raw O PktD.zero.cells.toArray 39 :: raw P p.cells.toArray 39 :: raw A h.cells.toArray 35 :: F) w' := H; refine hK _ _ ?_))
  refine wpM_begin [11] ((fun w => At w0 (lrow 5 1 c8 (.slice (some ⟨J, 0, none⟩) 320 320) V :: raw KB Y.cells.toArray 73 :: raw O PktD.zero.cells.toArray 39 :: raw P p.cells.toArray 39 :: raw A h.cells.toArray 35 :: F) w)) [(0, 2), (1, 1), (2, 2), (3, 1), (4, 2), (5, 1), (6, 2), (7, 2), (8, 1), (9, 2), (10, 0), (11, 0)] rfl (by kernel_rfl) (by kernel_rfl) ((H.drew)) ?_
  intro ops hOps hS
  replace H := H.drew
  refine wpM_free hOps (v := ?vOp1492) rfl (fun _ _ _ h => h) (yl rfl ?yOp1492) ?_
  case yOp1492 => (intro w hw; go_simp; first | done | rfl)
  simp only [nrm]
  refine wpM_take hOps hS rfl (fun _ _ _ h => h) (yl_get rfl _ _ rfl rfl (by kernel_rfl) (fun w hw => at_raw hw 4 rfl (v := .int .u16 (h.who : Int)) rfl)) ?_
  simp only [nrm]
  refine wpM_free hOps (v := ?vOp1496) rfl (fun _ _ _ h => h) (yl rfl ?yOp1496) ?_
  case yOp1496 => (intro w hw; go_simp; first | done | rfl)
  simp only [nrm]
  refine wpM_take hOps hS rfl (fun _ _ _ h => h) (yl_get rfl _ _ rfl rfl (by kernel_rfl) (fun w hw => at_raw hw 4 rfl g1.out)) ?_
  simp only [nrm]
  refine wpM_free hOps (v := ?vOp1500) rfl (fun _ _ _ h => h) (yl rfl ?yOp1500) ?_
  case yOp1500 => (intro w hw; go_simp; first | done | rfl)
  simp only [nrm]
  refine wpM_take hOps hS rfl (fun _ _ _ h => h) (yl_mid rfl 32 _ rfl (b := A) (off := 35) rfl (v8 h.nonce) (by kernel_rfl) (by rw [v8_length, HO.out.nonce]; exact size_nonce) (fun w hw => at_part hw 4 rfl (by rw [v8_length, HO.out.nonce]; exact g2.out))) ?_
  simp only [nrm]
  refine wpM_free hOps rfl (fun _ _ _ h => h) (yl_move rfl _ rfl) ?_
  simp only [nrm]
  refine wpM_free hOps rfl (fun _ _ _ h => h) (yl_arr rfl 37 _ rfl under_a320 rfl (by omega)) ?_
  simp only [nrm]
  refine wpM_take hOps hS rfl (fun _ _ _ h => h) (yl_mid rfl 37 _ rfl (b := J) (off := 0) rfl (v8 V) (by kernel_rfl) (by rw [v8_length, hVl.out]; exact size_a320) (fun w hw => by have h := see_range hw (see_own el_u8 hw 0 hVl.out.symm rfl) 320; rwa [List.take_of_length_le (by rw [hVl.out]; omega)] at h)) ?_
  simp only [nrm]
  refine wpM_free hOps rfl (fun _ _ _ h => h) (Hg.yl_build rfl 39 _ rfl (by rw [Array.toList_map]; rfl) hb1.out) ?_
  simp only [nrm]
  refine wpM_next hOps rfl rfl ?_
  intro K hK
  refine wp_alloc_sl 39 rfl info_pkt H (fun N w' H _ => ?_)
  replace H : At w0 (raw N PktD.zero.cells.toArray 39 :: lrow 5 1 c8 (.slice (some ⟨J, 0, none⟩) 320 320) V :: raw KB Y.cells.toArray 73 :: raw O PktD.zero.cells.toArray 39 :: raw P p.cells.toArray 39 :: raw A h.cells.toArray 35 :: F) w' := H
  have hS := (H.tail)
  refine hK _ _ (.inr hS) ?_
  clear hK K
  simp only [nrm]
  refine wpM_next hOps rfl rfl ?_
  intro K hK
  refine wp_store_row_sl 39 _ _ rfl (cells := q1.cells.toArray) rfl rfl (by rw [List.size_toArray, hl1.out]; exact size_pkt) (by simpa using PktD.cells_one) 0 H rfl (by rw [List.size_toArray, List.size_toArray, hl1.out]; rfl) (fun w' H => ?_)
  refine hK _ _ (.inl (by decide)) ?_
  clear hK K
  simp only [nrm]
  refine wpM_end ?_
  clear hOps hS ops
  replace H : At w0 (raw N q1.cells.toArray 39 :: raw KB Y.cells.toArray 73 :: raw O PktD.zero.cells.toArray 39 :: raw P p.cells.toArray 39 :: F) w' := H.maskR [true, false, true, true, true, false]
  go_wp2_with fail
  refine wpM_begin [8] ((fun w => At w0 (raw N q1.cells.toArray 39 :: raw KB Y.cells.toArray 73 :: raw O PktD.zero.cells.toArray 39 :: raw P p.cells.toArray 39 :: F) w)) [(0, 2), (1, 2), (2, 1), (3, 0), (4, 0), (5, 2), (6, 1), (7, 2), (8, 0)] rfl (by kernel_rfl) (by kernel_rfl) ((H.drew)) ?_
  intro ops hOps hS
  replace H := H.drew
  refine wpM_free hOps (v := ?vOp1517) rfl (fun _ _ _ h => h) (yl rfl ?yOp1517) ?_
  case yOp1517 => (intro w hw; go_simp; first | done | rfl)
  simp only [nrm]
  refine wpM_free hOps (v := ?vOp1519) rfl (fun _ _ _ h => h) (yl rfl ?yOp1519) ?_
  case yOp1519 => (intro w hw; go_simp; first | done | rfl)
  simp only [nrm]
  refine wpM_take hOps hS rfl (fun _ _ _ h => h) (yl_mid rfl 73 _ rfl rfl Y.cells (by kernel_rfl) (by rw [hYl.out]; exact size_keys) (fun w hw => at_blk hw 1 rfl)) ?_
  simp only [nrm]
  refine wpM_next hOps rfl rfl ?_
  intro K hK
  refine wp_call _ _ _ rfl Tryd.func29 rfl (by kernel_rfl) ?_
  simp only [List.map_toArray, List.map_cons, List.map_nil, Act.eval, Array.getD_eq_getD_getElem?, List.getElem?_toArray, List.getElem?_cons_zero, List.getElem?_cons_succ, Option.getD_some]
  refine (kbodies_c G H hYo.out).mono ?_; rintro e w' ⟨ba, bq, rfl, H⟩
  have hbl := Lib.hid (bodiesOf_length hYo.out)
  rw [hbl.out] at H ⊢
  have hS := (H.tail)
  refine hK _ _ (.inr hS) ?_
  clear hK K
  simp only [nrm]
  refine wpM_next hOps rfl rfl ?_
  intro K hK
  refine wp_call _ _ _ rfl Tryd.func26 rfl (by kernel_rfl) ?_
  simp only [List.map_toArray, List.map_cons, List.map_nil, Act.eval, Array.getD_eq_getD_getElem?, List.getElem?_toArray, List.getElem?_cons_zero, List.getElem?_cons_succ, Option.getD_some]
  refine (xor_c H (see_part 4 rfl PO.out.body.symm (Nat.le_refl _) p5.out) (see_own el_u8 H 0 hbl.out.symm rfl) (by rw [PO.out.body]; omega) (by rw [PO.out.body, hbl.out]; omega) (by rw [hbl.out]; omega)).mono ?_; rintro e w' ⟨X2, rfl, H⟩
  rw [HU.out, hUl.out] at H
  rw [HU.out, hUl.out]
  have hS := (H.tail.tail)
  refine hK _ _ (.inr hS) ?_
  clear hK K
  simp only [nrm]
  refine wpM_up (S' := fun w => At w0 (lrow 5 1 c8 (.slice (some ⟨X2, 0, none⟩) 256 256) U :: raw N q1.cells.toArray 39 :: raw KB Y.cells.toArray 73 :: raw O PktD.zero.cells.toArray 39 :: raw P p.cells.toArray 39 :: F) w) (fun w h => h.tail) ?_
  replace H : At w0 (lrow 5 1 c8 (.slice (some ⟨X2, 0, none⟩) 256 256) U :: raw N q1.cells.toArray 39 :: raw KB Y.cells.toArray 73 :: raw O PktD.zero.cells.toArray 39 :: raw P p.cells.toArray 39 :: F) w' := H.maskR [true, false, true, true, true, true]
  replace hS := H
  refine wpM_free hOps rfl (fun _ _ _ h => h) (yl_arr rfl 24 _ rfl under_a256 rfl (by omega)) ?_
  simp only [nrm]
  refine wpM_take hOps hS rfl (fun _ _ _ h => h) (yl_mid rfl 24 _ rfl (b := X2) (off := 0) rfl (v8 U) (by kernel_rfl) (by rw [v8_length, hUl.out]; exact size_a256) (fun w hw => by have h := see_range hw (see_own el_u8 hw 0 hUl.out.symm rfl) 256; rwa [List.take_of_length_le (by rw [hUl.out]; omega)] at h)) ?_
  simp only [nrm]
  refine wpM_free hOps (v := ?vOp1531) rfl (fun _ _ _ h => h) (yl rfl ?yOp1531) ?_
  case yOp1531 => (intro w hw; go_simp; first | done | rfl)
  simp only [nrm]
  refine wpM_next hOps rfl rfl ?_
  intro K hK
  refine wp_store_mid_sl 24 _ _ rfl (b := N) (off := 354) (cells := v8 U) rfl rfl (by rw [v8_length, hUl.out]; exact size_a256) (v8_one U) 1 H rfl (by rw [List.size_toArray, v8_length, hUl.out, hl1.out]; omega) (fun w' H => ?_)
  refine hK _ _ (.inl (by decide)) ?_
  clear hK K
  simp only [nrm]
  refine wpM_end ?_
  clear hOps hS ops
  rw [List.toList_toArray, hb2.out] at H
  replace H : At w0 (raw N q2.cells.toArray 39 :: raw KB Y.cells.toArray 73 :: raw O PktD.zero.cells.toArray 39 :: F) w' := H.maskR [false, true, true, true, false]
  go_wp2_with ((with_reducible refine wpList_op rfl ?_); intro _ hK; first
    | (refine wp_mid 73 _ rfl (b := KB) (off := 0) rfl Y.cells (by kernel_rfl) (by rw [hYl.out]; exact size_keys) (at_blk H 1 rfl) (hK _ _ ?_))
    | (refine wp_mid 39 _ rfl (b := N) (off := 0) rfl q2.cells (by kernel_rfl) (by rw [hl2.out]; exact size_pkt) (at_blk H 0 rfl) (hK _ _ ?_)))
  refine (ksum_c G H hYo.out HQ2.out).mono ?_; rintro e w' ⟨rfl, H⟩
  rw [HT.out]
  go_wp2_with ((with_reducible refine wpList_op rfl ?_); intro _ hK; first
    | (refine wp_store_mid_sl 36 _ _ rfl (b := N) (off := 18) (cells := v8 T) rfl rfl (by rw [v8_length, hTl.out]; exact size_mact) (v8_one T) 0 H rfl (by rw [List.size_toArray, v8_length, hTl.out, hl2.out]; omega) (fun w' H => ?_); rw [List.toList_toArray, hb3.out] at H; replace H : At w0 (raw N q.cells.toArray 39 :: raw O PktD.zero.cells.toArray 39 :: F) w' := H.maskR [true, false, true]; refine hK _ _ ?_)
    | (refine wp_mid 39 _ rfl (b := N) (off := 0) rfl q.cells (by kernel_rfl) (by rw [hl3.out]; exact size_pkt) (at_blk H 0 rfl) (hK _ _ ?_))
    | (refine wp_store_row_sl 39 _ _ rfl (b := O) (cells := q.cells.toArray) rfl rfl (by rw [List.size_toArray, hl3.out]; exact size_pkt) (by simpa using PktD.cells_one) 1 H rfl (by rw [List.size_toArray, List.size_toArray, hl3.out]; rfl) (fun w' H => ?_); replace H : At w0 (raw O q.cells.toArray 39 :: F) w' := H.maskR [false, true]; refine hK _ _ ?_))
  exact bodyPost_ret (v := .tuple #[.agg q.cells.toArray, .int .i64 0]) (results_row_tmp rfl _ rfl (at_blk H 0 rfl) (by kernel_rfl) (by rw [hl3.out]; exact size_pkt) rfl) rfl ⟨rfl, H.tail⟩
end Go.Proofs.YtgdphamdbpkjdaaDoor
