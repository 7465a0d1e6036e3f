/-
  The reference of chapter 11 over texts, second part: a layer is taken off.
-/
import Derived.Test.YtgdphamdbpkjdaaDoorROnA
import Derived.Test.YtgdphamdbpkjdaaDoorRSlot
import Derived.Test.YtgdphamdbpkjdaaDoorPeel
namespace Go.Proofs.YtgdphamdbpkjdaaDoor
open Go.RowKit Go.Hg
set_option linter.unusedSimpArgs false
set_option linter.unusedVariables false
def rpZ : List Value := List.replicate 6 (Value.string ByteArray.empty)
theorem rpZ_one : ∀ u ∈ rpZ.toArray.toList, u.oneCell' = true := by intro u hu; simp [rpZ] at hu; subst hu; rfl
theorem rpC_one (p : PktD) : ∀ u ∈ (rpC p).toArray.toList, u.oneCell' = true := by intro u hu; simp [rpC] at hu; rcases hu with rfl | rfl | rfl | rfl | rfl | rfl <;> rfl
theorem places_rp : placesOf Tryd.prog 52 = some (rpZ, [(0, 1), (1, 1), (2, 1), (3, 1), (4, 1), (5, 1)]) := by kernel_rfl
/-- What the reference tells of a packet that was peeled: none, if there was an error. -/
def rpE (e : Nat) (q : PktD) : List Value := if e = 0 then rpC q else rpZ
set_option maxRecDepth 10000 in
set_option maxHeartbeats 2000000 in
theorem RPeel_bad {w0 w : World} {F : List SP} {key : List (BitVec 8)} {p : PktD} (H : At w0 F w) (hk : key.length ≤ 64) (po : p.ok) (hm : p.mac ≠ macOf key p) :
    Calls Tryd.prog 16 #[.string (sB key), .agg (rpC p).toArray] w fun r w' => r = .returned (.tuple #[.agg SlotD.zero.cells.toArray, .agg rpZ.toArray, .int .i64 4]) ∧ At w0 F w' := by
  have HK := Lib.hid hk
  have PO := Lib.hid po
  have HM := Lib.hid hm
  clear hk po hm
  go_enter Tryd.func16, Tryd.ntmps16
  go_wp2_with ((with_reducible refine wpList_op rfl ?_); intro _ hK; first
    | (refine dst_is 3 rfl ?_; refine wp_box_sl (v := .agg (rpC p).toArray) 52 _ rfl rfl H (fun P w' (H : At w0 (raw P (rpC p).toArray 52 :: F) w') _ => hK _ _ ?_))
    | (refine dst_is 4 rfl ?_; refine wp_alloc_sl 45 rfl info_slot H (fun S w' (H : At w0 (raw S SlotD.zero.cells.toArray 45 :: raw P (rpC p).toArray 52 :: F) w') _ => hK _ _ ?_))
    | (refine dst_is 5 rfl ?_; refine wp_alloc_sl 52 rfl rp_info H (fun Q w' (H : At w0 (raw Q rpZ.toArray 52 :: raw S SlotD.zero.cells.toArray 45 :: raw P (rpC p).toArray 52 :: F) w') _ => hK _ _ (Stop.go ?_))))
  refine Stop.un ?_
  go_wp2_with fail
  refine wpS_begin [] (raw Q rpZ.toArray 52 :: raw S SlotD.zero.cells.toArray 45 :: raw P (rpC p).toArray 52 :: F) (.fr 0 (.tk 1 (.fr 2 (.tk 3 (.fr 4 (.fr 5 .nil)))))) rfl (by kernel_rfl) (by kernel_rfl) H ?_
  clear H
  intro ops hOps
  refine wpS_free hOps (v := ?vOp3386) rfl (fun _ _ _ h => h) (yl rfl ?yOp3386) ?_
  case yOp3386 => (intro w hw; go_simp; first | done | rfl)
  simp only [nrm]
  refine wpS_take hOps rfl (fun _ _ _ h => h) (by first | exact Imp.refl _ | exact (Imp.refl _).more _ | exact ((Imp.refl _).more _).more _ | exact seps_pick _ _ (by repeat (first | exact List.Sublist.refl _ | exact List.nil_sublist _ | apply List.Sublist.cons_cons | apply List.Sublist.cons))) (GY.of_yields (yl_get rfl _ _ rfl rfl (by kernel_rfl) (fun w hw => at_raw hw 2 rfl (v := .string (sB p.mac)) rfl))) ?_
  simp only [nrm]
  refine wpS_free hOps rfl (fun _ _ _ h => h) (yl_move rfl _ rfl) ?_
  simp only [nrm]
  refine wpS_take hOps rfl (fun _ _ _ h => h) (by first | exact Imp.refl _ | exact (Imp.refl _).more _ | exact ((Imp.refl _).more _).more _ | exact seps_pick _ _ (by repeat (first | exact List.Sublist.refl _ | exact List.nil_sublist _ | apply List.Sublist.cons_cons | apply List.Sublist.cons))) (GY.of_yields (yl_mid rfl 52 _ rfl (b := P) (off := 0) rfl (rpC p) (by kernel_rfl) rp_size (fun w hw => at_blk hw 2 rfl))) ?_
  simp only [nrm]
  refine wpS_fcall hOps (v := ?vOp3395) rfl (fun _ _ _ h => h) (GY.call rfl _ _ _ rfl Tryd.func12 rfl (by kernel_rfl) ?yOp3395) ?_
  case yOp3395 =>
    intro L w f H
    simp only [List.map_toArray, List.map_cons, List.map_nil, nrm]
    exact (RMAC11_c H HK.out PO.out)
  simp only [nrm]
  refine wpS_free hOps rfl (fun _ _ _ h => h) (yl rfl (fun w _ => exec_sneq_t (u := p.mac) (v := macOf key p) rfl rfl rfl HM.out w)) ?_
  simp only [nrm]
  refine wpS_end (fun w H => ?_)
  clear hOps ops
  go_wp2_with ((with_reducible refine wpList_op rfl ?_); intro _ hK; first
    | (refine dst_is 17 rfl ?_; refine Hg.wp_build 45 _ rfl (by rw [Array.toList_map]; rfl) (run_buildL places_slot [] rfl _) (hK _ _ ?_))
    | (refine dst_is 18 rfl ?_; refine Hg.wp_build 52 _ rfl (by rw [Array.toList_map]; rfl) (run_buildL places_rp [] rfl _) (hK _ _ ?_))
    | (refine sto_is 4 rfl ?_; refine wp_store_row_sl 45 _ _ rfl (b := S) (cells := SlotD.zero.cells.toArray) rfl rfl size_slot (by simpa using SlotD.cells_one) 1 H rfl rfl (fun w' (H : At w0 (raw Q rpZ.toArray 52 :: raw S SlotD.zero.cells.toArray 45 :: raw P (rpC p).toArray 52 :: F) w') => hK _ _ ?_))
    | (refine sto_is 5 rfl ?_; refine wp_store_row_sl 52 _ _ rfl (b := Q) (cells := rpZ.toArray) rfl rfl rp_size rpZ_one 0 H rfl rfl (fun w' (H : At w0 (raw Q rpZ.toArray 52 :: raw S SlotD.zero.cells.toArray 45 :: raw P (rpC p).toArray 52 :: F) w') => hK _ _ ?_)))
  exact bodyPost_ret (v := .tuple #[.agg SlotD.zero.cells.toArray, .agg rpZ.toArray, .int .i64 4]) (results_row2_tmp rfl _ rfl (at_blk H 1 rfl) (by kernel_rfl) size_slot rfl (at_blk H 0 rfl) (by kernel_rfl) rp_size rfl) rfl ⟨rfl, H.maskR [false, false, false]⟩
set_option maxRecDepth 10000 in
set_option maxHeartbeats 2000000 in
theorem RPeel_none {w0 w : World} {F : List SP} {key : List (BitVec 8)} {p : PktD} (H : At w0 F w) (hk : key.length ≤ 64) (po : p.ok) (hm : p.mac = macOf key p) (hd : SlotD.dec ((openOf key p).take 64) = none) :
    Calls Tryd.prog 16 #[.string (sB key), .agg (rpC p).toArray] w fun r w' => r = .returned (.tuple #[.agg SlotD.zero.cells.toArray, .agg rpZ.toArray, .int .i64 3]) ∧ At w0 F w' := by
  have HK := Lib.hid hk
  have PO := Lib.hid po
  have HM := Lib.hid hm
  obtain ⟨Z, hZ⟩ : ∃ Z, Z = headsOf (keysOf key p.epoch p.nonce) := ⟨_, rfl⟩
  have HS := Lib.hid (show streamOf (deriveOf key [[104, 101, 97, 100], beN 4 p.epoch, p.nonce]) (zs 12) 384 = Z by rw [hZ]; rfl)
  have HZl := Lib.hid (show Z.length = 384 by rw [hZ]; exact headsOf_length (keysOf_ok _ _ _))
  obtain ⟨O, hO⟩ : ∃ O, O = openOf key p := ⟨_, rfl⟩
  have HO := Lib.hid (show xorB (p.head ++ zs 64) Z = O by rw [hO, hZ]; rfl)
  have HOl := Lib.hid (show O.length = 384 by rw [hO]; exact openOf_length key po.head)
  obtain ⟨B, hB⟩ : ∃ B, B = O.take 64 := ⟨_, rfl⟩
  have HB := Lib.hid hB.symm
  have HBl := Lib.hid (show B.length = 64 by rw [hB, List.length_take, HOl.out]; rfl)
  rw [← hO, ← hB] at hd
  have HDS := Lib.hid (show DecS B = SlotD.zero by unfold DecS; rw [hd]; rfl)
  have HDE := Lib.hid (show DecE B = 3 by unfold DecE; rw [hd]; rfl)
  clear hk po hm hd hZ hO hB
  go_enter Tryd.func16, Tryd.ntmps16
  go_wp2_with ((with_reducible refine wpList_op rfl ?_); intro _ hK; first
    | (refine dst_is 3 rfl ?_; refine wp_box_sl (v := .agg (rpC p).toArray) 52 _ rfl rfl H (fun P w' (H : At w0 (raw P (rpC p).toArray 52 :: F) w') _ => hK _ _ ?_))
    | (refine dst_is 4 rfl ?_; refine wp_alloc_sl 45 rfl info_slot H (fun S w' (H : At w0 (raw S SlotD.zero.cells.toArray 45 :: raw P (rpC p).toArray 52 :: F) w') _ => hK _ _ ?_))
    | (refine dst_is 5 rfl ?_; refine wp_alloc_sl 52 rfl rp_info H (fun Q w' (H : At w0 (raw Q rpZ.toArray 52 :: raw S SlotD.zero.cells.toArray 45 :: raw P (rpC p).toArray 52 :: F) w') _ => hK _ _ (Stop.go ?_))))
  refine Stop.un ?_
  go_wp2_with fail
  refine wpS_begin [] (raw Q rpZ.toArray 52 :: raw S SlotD.zero.cells.toArray 45 :: raw P (rpC p).toArray 52 :: F) (.fr 0 (.tk 1 (.fr 2 (.tk 3 (.fr 4 (.fr 5 .nil)))))) rfl (by kernel_rfl) (by kernel_rfl) H ?_
  clear H
  intro ops hOps
  refine wpS_free hOps (v := ?vOp3401) rfl (fun _ _ _ h => h) (yl rfl ?yOp3401) ?_
  case yOp3401 => (intro w hw; go_simp; first | done | rfl)
  simp only [nrm]
  refine wpS_take hOps rfl (fun _ _ _ h => h) (by first | exact Imp.refl _ | exact (Imp.refl _).more _ | exact ((Imp.refl _).more _).more _ | exact seps_pick _ _ (by repeat (first | exact List.Sublist.refl _ | exact List.nil_sublist _ | apply List.Sublist.cons_cons | apply List.Sublist.cons))) (GY.of_yields (yl_get rfl _ _ rfl rfl (by kernel_rfl) (fun w hw => at_raw hw 2 rfl (v := .string (sB p.mac)) rfl))) ?_
  simp only [nrm]
  refine wpS_free hOps rfl (fun _ _ _ h => h) (yl_move rfl _ rfl) ?_
  simp only [nrm]
  refine wpS_take hOps rfl (fun _ _ _ h => h) (by first | exact Imp.refl _ | exact (Imp.refl _).more _ | exact ((Imp.refl _).more _).more _ | exact seps_pick _ _ (by repeat (first | exact List.Sublist.refl _ | exact List.nil_sublist _ | apply List.Sublist.cons_cons | apply List.Sublist.cons))) (GY.of_yields (yl_mid rfl 52 _ rfl (b := P) (off := 0) rfl (rpC p) (by kernel_rfl) rp_size (fun w hw => at_blk hw 2 rfl))) ?_
  simp only [nrm]
  refine wpS_fcall hOps (v := ?vOp3410) rfl (fun _ _ _ h => h) (GY.call rfl _ _ _ rfl Tryd.func12 rfl (by kernel_rfl) ?yOp3410) ?_
  case yOp3410 =>
    intro L w f H
    simp only [List.map_toArray, List.map_cons, List.map_nil, nrm]
    exact (RMAC11_c H HK.out PO.out)
  simp only [nrm]
  refine wpS_free hOps rfl (fun _ _ _ h => h) (yl rfl (fun w _ => exec_sneq_f (u := p.mac) (v := macOf key p) rfl rfl rfl HM.out w)) ?_
  simp only [nrm]
  refine wpS_end (fun w H => ?_)
  clear hOps ops
  go_wp2_with fail
  refine wpS_begin [] (raw Q rpZ.toArray 52 :: raw S SlotD.zero.cells.toArray 45 :: raw P (rpC p).toArray 52 :: F) (.fr 0 (.tk 1 (.fr 2 (.fr 3 (.fr 4 (.fr 5 (.tk 6 (.fr 7 (.tk 8 (.fr 9 (.fr 10 (.nx 11 .nil)))))))))))) rfl (by kernel_rfl) (by kernel_rfl) H ?_
  clear H
  intro ops hOps
  refine wpS_free hOps (v := ?vOp3416) rfl (fun _ _ _ h => h) (yl rfl ?yOp3416) ?_
  case yOp3416 => (intro w hw; go_simp; first | done | rfl)
  simp only [nrm]
  refine wpS_take hOps rfl (fun _ _ _ h => h) (by first | exact Imp.refl _ | exact (Imp.refl _).more _ | exact ((Imp.refl _).more _).more _ | exact seps_pick _ _ (by repeat (first | exact List.Sublist.refl _ | exact List.nil_sublist _ | apply List.Sublist.cons_cons | apply List.Sublist.cons))) (GY.of_yields (yl_get rfl _ _ rfl rfl (by kernel_rfl) (fun w hw => at_raw hw 2 rfl (v := .string (sB p.head)) rfl))) ?_
  simp only [nrm]
  refine wpS_fcall hOps (v := ?vOp3420) rfl (fun _ _ _ h => h) (GY.call rfl _ _ _ rfl Tryd.func33 rfl (by kernel_rfl) ?yOp3420) ?_
  case yOp3420 =>
    intro L w f H
    simp only [List.map_toArray, List.map_cons, List.map_nil, nrm]
    exact (RNoughts_c (n := 64) H (by omega))
  simp only [nrm]
  refine wpS_free hOps rfl (fun _ _ _ h => h) (yl rfl (fun w _ => exec_sadd (u := p.head) (v := zs 64) rfl rfl rfl (by rw [PO.out.head, zs_length]; omega) w)) ?_
  simp only [nrm]
  refine wpS_free hOps rfl (fun _ _ _ h => h) (yl_move rfl _ rfl) ?_
  simp only [nrm]
  refine wpS_free hOps (v := ?vOp3427) rfl (fun _ _ _ h => h) (yl rfl ?yOp3427) ?_
  case yOp3427 => (intro w hw; go_simp; first | done | rfl)
  simp only [nrm]
  refine wpS_take hOps rfl (fun _ _ _ h => h) (by first | exact Imp.refl _ | exact (Imp.refl _).more _ | exact ((Imp.refl _).more _).more _ | exact seps_pick _ _ (by repeat (first | exact List.Sublist.refl _ | exact List.nil_sublist _ | apply List.Sublist.cons_cons | apply List.Sublist.cons))) (GY.of_yields (yl_get rfl _ _ rfl rfl (by kernel_rfl) (fun w hw => at_raw hw 2 rfl (v := .string (sB (beN 4 p.epoch))) rfl))) ?_
  simp only [nrm]
  refine wpS_free hOps (v := ?vOp3431) rfl (fun _ _ _ h => h) (yl rfl ?yOp3431) ?_
  case yOp3431 => (intro w hw; go_simp; first | done | rfl)
  simp only [nrm]
  refine wpS_take hOps rfl (fun _ _ _ h => h) (by first | exact Imp.refl _ | exact (Imp.refl _).more _ | exact ((Imp.refl _).more _).more _ | exact seps_pick _ _ (by repeat (first | exact List.Sublist.refl _ | exact List.nil_sublist _ | apply List.Sublist.cons_cons | apply List.Sublist.cons))) (GY.of_yields (yl_get rfl _ _ rfl rfl (by kernel_rfl) (fun w hw => at_raw hw 2 rfl (v := .string (sB p.nonce)) rfl))) ?_
  simp only [nrm]
  refine wpS_fcall hOps (v := ?vOp3435) rfl (fun _ _ _ h => h) (GY.call rfl _ _ _ rfl Tryd.func34 rfl (by kernel_rfl) ?yOp3435) ?_
  case yOp3435 =>
    intro L w f H
    simp only [List.map_toArray, List.map_cons, List.map_nil, nrm]
    exact (by have h := RHead_c (key := key) (e := beN 4 p.epoch) (n := p.nonce) H HK.out (by rw [beN_length]; omega) (by rw [PO.out.nonce]; omega); rw [HS.out] at h; exact h)
  simp only [nrm]
  refine wpS_fcall hOps (v := ?vOp3437) rfl (fun _ _ _ h => h) (GY.call rfl _ _ _ rfl Tryd.func35 rfl (by kernel_rfl) ?yOp3437) ?_
  case yOp3437 =>
    intro L w f H
    simp only [List.map_toArray, List.map_cons, List.map_nil, nrm]
    exact (by have h := RXor_c (a := p.head ++ zs 64) (b := Z) H (by rw [List.length_append, PO.out.head, zs_length, HZl.out]) (by rw [List.length_append, PO.out.head, zs_length]; omega); rw [HO.out] at h; exact h)
  simp only [nrm]
  refine wpS_next hOps rfl rfl ?_
  intro w H K hK
  refine wp_run rfl ?_
  refine hK _ _ _ (.inr (.inl (Imp.refl _))) H ?_
  clear hK K H
  try simp only [nrm]
  refine wpS_end (fun w H => ?_)
  clear hOps ops
  go_wp2_with ((with_reducible refine wpList_op rfl ?_); intro _ hK; first
    | (refine dst_is 32 rfl ?_; refine wp_slice 9 _ _ _ _ rfl (run_stake (l := O) (J := 64) (j := 64) under_strT rfl (by rw [HOl.out]; omega) _) ?_; rw [HB.out]; refine hK _ _ (Stop.go ?_)))
  refine Stop.un ?_
  go_wp2_with fail
  refine (RRead_c (b := B) H HBl.out).mono ?_; rintro e w' ⟨rfl, H⟩
  rw [HDS.out, HDE.out]
  go_wp2_with ((with_reducible refine wpList_op rfl ?_); intro _ hK; first
    | (refine dst_is 8 rfl ?_; refine wp_alloc_sl 45 rfl info_slot H (fun D w' (H : At w0 (raw D SlotD.zero.cells.toArray 45 :: raw Q rpZ.toArray 52 :: raw S SlotD.zero.cells.toArray 45 :: raw P (rpC p).toArray 52 :: F) w') _ => hK _ _ ?_))
    | (refine sto_is 8 rfl ?_; refine wp_store_row_sl 45 _ _ rfl (b := D) (cells := SlotD.zero.cells.toArray) rfl rfl size_slot (by simpa using SlotD.cells_one) 0 H rfl rfl (fun w' (H : At w0 (raw D SlotD.zero.cells.toArray 45 :: raw Q rpZ.toArray 52 :: raw S SlotD.zero.cells.toArray 45 :: raw P (rpC p).toArray 52 :: F) w') => hK _ _ ?_))
    | (refine dst_is 38 rfl ?_; refine Hg.wp_build 45 _ rfl (by rw [Array.toList_map]; rfl) (run_buildL places_slot [] rfl _) (hK _ _ ?_))
    | (refine dst_is 39 rfl ?_; refine Hg.wp_build 52 _ rfl (by rw [Array.toList_map]; rfl) (run_buildL places_rp [] rfl _) (hK _ _ ?_))
    | (refine sto_is 4 rfl ?_; refine wp_store_row_sl 45 _ _ rfl (b := S) (cells := SlotD.zero.cells.toArray) rfl rfl size_slot (by simpa using SlotD.cells_one) 2 H rfl rfl (fun w' (H : At w0 (raw D SlotD.zero.cells.toArray 45 :: raw Q rpZ.toArray 52 :: raw S SlotD.zero.cells.toArray 45 :: raw P (rpC p).toArray 52 :: F) w') => hK _ _ ?_))
    | (refine sto_is 5 rfl ?_; refine wp_store_row_sl 52 _ _ rfl (b := Q) (cells := rpZ.toArray) rfl rfl rp_size rpZ_one 1 H rfl rfl (fun w' (H : At w0 (raw D SlotD.zero.cells.toArray 45 :: raw Q rpZ.toArray 52 :: raw S SlotD.zero.cells.toArray 45 :: raw P (rpC p).toArray 52 :: F) w') => hK _ _ ?_)))
  exact bodyPost_ret (v := .tuple #[.agg SlotD.zero.cells.toArray, .agg rpZ.toArray, .int .i64 3]) (results_row2_tmp rfl _ rfl (at_blk H 2 rfl) (by kernel_rfl) size_slot rfl (at_blk H 1 rfl) (by kernel_rfl) rp_size rfl) rfl ⟨rfl, H.maskR [false, false, false, false]⟩
set_option maxRecDepth 10000 in
set_option maxHeartbeats 2000000 in
theorem RPeel_some {w0 w : World} {F : List SP} {key : List (BitVec 8)} {p : PktD} {s : SlotD} (H : At w0 F w) (hk : key.length ≤ 64) (po : p.ok) (hm : p.mac = macOf key p) (hd : SlotD.dec ((openOf key p).take 64) = some s) :
    Calls Tryd.prog 16 #[.string (sB key), .agg (rpC p).toArray] w fun r w' => r = .returned (.tuple #[.agg s.cells.toArray, .agg (rpC ⟨s.who, s.epoch, s.nonce, s.mac, (openOf key p).drop 64, xorB p.body (bodiesOf (keysOf key p.epoch p.nonce))⟩).toArray, .int .i64 0]) ∧ At w0 F w' := by
  have HK := Lib.hid hk
  have PO := Lib.hid po
  have HM := Lib.hid hm
  obtain ⟨Z, hZ⟩ : ∃ Z, Z = headsOf (keysOf key p.epoch p.nonce) := ⟨_, rfl⟩
  have HS := Lib.hid (show streamOf (deriveOf key [[104, 101, 97, 100], beN 4 p.epoch, p.nonce]) (zs 12) 384 = Z by rw [hZ]; rfl)
  have HZl := Lib.hid (show Z.length = 384 by rw [hZ]; exact headsOf_length (keysOf_ok _ _ _))
  obtain ⟨O, hO⟩ : ∃ O, O = openOf key p := ⟨_, rfl⟩
  have HO := Lib.hid (show xorB (p.head ++ zs 64) Z = O by rw [hO, hZ]; rfl)
  have HOl := Lib.hid (show O.length = 384 by rw [hO]; exact openOf_length key po.head)
  obtain ⟨B, hB⟩ : ∃ B, B = O.take 64 := ⟨_, rfl⟩
  have HB := Lib.hid hB.symm
  have HBl := Lib.hid (show B.length = 64 by rw [hB, List.length_take, HOl.out]; rfl)
  rw [← hO, ← hB] at hd
  have HDS := Lib.hid (show DecS B = s by unfold DecS; rw [hd]; rfl)
  have HDE := Lib.hid (show DecE B = 0 by unfold DecE; rw [hd]; rfl)
  have so := (SlotD.dec_some HBl.out hd).2.1
  have SO := Lib.hid so
  have hsl := Lib.hid (SlotD.cells_length so.nonce so.mac)
  obtain ⟨Y, hY⟩ : ∃ Y, Y = bodiesOf (keysOf key p.epoch p.nonce) := ⟨_, rfl⟩
  have HSB := Lib.hid (show streamOf (deriveOf key [[98, 111, 100, 121], beN 4 p.epoch, p.nonce]) (zs 12) 256 = Y by rw [hY]; rfl)
  have HYl := Lib.hid (show Y.length = 256 by rw [hY]; exact bodiesOf_length (keysOf_ok _ _ _))
  obtain ⟨q, hq⟩ : ∃ q : PktD, q = ⟨s.who, s.epoch, s.nonce, s.mac, O.drop 64, xorB p.body Y⟩ := ⟨_, rfl⟩
  have HQ := Lib.hid (show rpC q = [.string (sB (beN 2 s.who)), .string (sB (beN 4 s.epoch)), .string (sB s.nonce), .string (sB s.mac), .string (sB (O.drop 64)), .string (sB (xorB p.body Y))] by rw [hq]; rfl)
  rw [← hO, ← hY, ← hq]
  have h3 := Lib.hid (show s.cells[3]? = some (.int .u16 (s.who : Int)) from rfl)
  have h4 := Lib.hid (show s.cells[4]? = some (.int .u32 (s.epoch : Int)) from rfl)
  have h5 := Lib.hid (SlotD.cells_nonce so.nonce)
  have h6 := Lib.hid (SlotD.cells_mac so.nonce so.mac)
  have e3 : IntKind.u64.wrap (s.who : Int) = (s.who : Int) := by rw [IntKind.wrap_u64]; have := so.who; omega
  have e4 : IntKind.u64.wrap (s.epoch : Int) = (s.epoch : Int) := by rw [IntKind.wrap_u64]; have := so.epoch; omega
  clear hk po hm hd hZ hO hB so hY hq
  go_enter Tryd.func16, Tryd.ntmps16
  go_wp2_with ((with_reducible refine wpList_op rfl ?_); intro _ hK; first
    | (refine dst_is 3 rfl ?_; refine wp_box_sl (v := .agg (rpC p).toArray) 52 _ rfl rfl H (fun P w' (H : At w0 (raw P (rpC p).toArray 52 :: F) w') _ => hK _ _ ?_))
    | (refine dst_is 4 rfl ?_; refine wp_alloc_sl 45 rfl info_slot H (fun S w' (H : At w0 (raw S SlotD.zero.cells.toArray 45 :: raw P (rpC p).toArray 52 :: F) w') _ => hK _ _ ?_))
    | (refine dst_is 5 rfl ?_; refine wp_alloc_sl 52 rfl rp_info H (fun Q w' (H : At w0 (raw Q rpZ.toArray 52 :: raw S SlotD.zero.cells.toArray 45 :: raw P (rpC p).toArray 52 :: F) w') _ => hK _ _ (Stop.go ?_))))
  refine Stop.un ?_
  go_wp2_with fail
  refine wpS_begin [] (raw Q rpZ.toArray 52 :: raw S SlotD.zero.cells.toArray 45 :: raw P (rpC p).toArray 52 :: F) (.fr 0 (.tk 1 (.fr 2 (.tk 3 (.fr 4 (.fr 5 .nil)))))) rfl (by kernel_rfl) (by kernel_rfl) H ?_
  clear H
  intro ops hOps
  refine wpS_free hOps (v := ?vOp3443) rfl (fun _ _ _ h => h) (yl rfl ?yOp3443) ?_
  case yOp3443 => (intro w hw; go_simp; first | done | rfl)
  simp only [nrm]
  refine wpS_take hOps rfl (fun _ _ _ h => h) (by first | exact Imp.refl _ | exact (Imp.refl _).more _ | exact ((Imp.refl _).more _).more _ | exact seps_pick _ _ (by repeat (first | exact List.Sublist.refl _ | exact List.nil_sublist _ | apply List.Sublist.cons_cons | apply List.Sublist.cons))) (GY.of_yields (yl_get rfl _ _ rfl rfl (by kernel_rfl) (fun w hw => at_raw hw 2 rfl (v := .string (sB p.mac)) rfl))) ?_
  simp only [nrm]
  refine wpS_free hOps rfl (fun _ _ _ h => h) (yl_move rfl _ rfl) ?_
  simp only [nrm]
  refine wpS_take hOps rfl (fun _ _ _ h => h) (by first | exact Imp.refl _ | exact (Imp.refl _).more _ | exact ((Imp.refl _).more _).more _ | exact seps_pick _ _ (by repeat (first | exact List.Sublist.refl _ | exact List.nil_sublist _ | apply List.Sublist.cons_cons | apply List.Sublist.cons))) (GY.of_yields (yl_mid rfl 52 _ rfl (b := P) (off := 0) rfl (rpC p) (by kernel_rfl) rp_size (fun w hw => at_blk hw 2 rfl))) ?_
  simp only [nrm]
  refine wpS_fcall hOps (v := ?vOp3452) rfl (fun _ _ _ h => h) (GY.call rfl _ _ _ rfl Tryd.func12 rfl (by kernel_rfl) ?yOp3452) ?_
  case yOp3452 =>
    intro L w f H
    simp only [List.map_toArray, List.map_cons, List.map_nil, nrm]
    exact (RMAC11_c H HK.out PO.out)
  simp only [nrm]
  refine wpS_free hOps rfl (fun _ _ _ h => h) (yl rfl (fun w _ => exec_sneq_f (u := p.mac) (v := macOf key p) rfl rfl rfl HM.out w)) ?_
  simp only [nrm]
  refine wpS_end (fun w H => ?_)
  clear hOps ops
  go_wp2_with fail
  refine wpS_begin [] (raw Q rpZ.toArray 52 :: raw S SlotD.zero.cells.toArray 45 :: raw P (rpC p).toArray 52 :: F) (.fr 0 (.tk 1 (.fr 2 (.fr 3 (.fr 4 (.fr 5 (.tk 6 (.fr 7 (.tk 8 (.fr 9 (.fr 10 (.nx 11 .nil)))))))))))) rfl (by kernel_rfl) (by kernel_rfl) H ?_
  clear H
  intro ops hOps
  refine wpS_free hOps (v := ?vOp3458) rfl (fun _ _ _ h => h) (yl rfl ?yOp3458) ?_
  case yOp3458 => (intro w hw; go_simp; first | done | rfl)
  simp only [nrm]
  refine wpS_take hOps rfl (fun _ _ _ h => h) (by first | exact Imp.refl _ | exact (Imp.refl _).more _ | exact ((Imp.refl _).more _).more _ | exact seps_pick _ _ (by repeat (first | exact List.Sublist.refl _ | exact List.nil_sublist _ | apply List.Sublist.cons_cons | apply List.Sublist.cons))) (GY.of_yields (yl_get rfl _ _ rfl rfl (by kernel_rfl) (fun w hw => at_raw hw 2 rfl (v := .string (sB p.head)) rfl))) ?_
  simp only [nrm]
  refine wpS_fcall hOps (v := ?vOp3462) rfl (fun _ _ _ h => h) (GY.call rfl _ _ _ rfl Tryd.func33 rfl (by kernel_rfl) ?yOp3462) ?_
  case yOp3462 =>
    intro L w f H
    simp only [List.map_toArray, List.map_cons, List.map_nil, nrm]
    exact (RNoughts_c (n := 64) H (by omega))
  simp only [nrm]
  refine wpS_free hOps rfl (fun _ _ _ h => h) (yl rfl (fun w _ => exec_sadd (u := p.head) (v := zs 64) rfl rfl rfl (by rw [PO.out.head, zs_length]; omega) w)) ?_
  simp only [nrm]
  refine wpS_free hOps rfl (fun _ _ _ h => h) (yl_move rfl _ rfl) ?_
  simp only [nrm]
  refine wpS_free hOps (v := ?vOp3469) rfl (fun _ _ _ h => h) (yl rfl ?yOp3469) ?_
  case yOp3469 => (intro w hw; go_simp; first | done | rfl)
  simp only [nrm]
  refine wpS_take hOps rfl (fun _ _ _ h => h) (by first | exact Imp.refl _ | exact (Imp.refl _).more _ | exact ((Imp.refl _).more _).more _ | exact seps_pick _ _ (by repeat (first | exact List.Sublist.refl _ | exact List.nil_sublist _ | apply List.Sublist.cons_cons | apply List.Sublist.cons))) (GY.of_yields (yl_get rfl _ _ rfl rfl (by kernel_rfl) (fun w hw => at_raw hw 2 rfl (v := .string (sB (beN 4 p.epoch))) rfl))) ?_
  simp only [nrm]
  refine wpS_free hOps (v := ?vOp3473) rfl (fun _ _ _ h => h) (yl rfl ?yOp3473) ?_
  case yOp3473 => (intro w hw; go_simp; first | done | rfl)
  simp only [nrm]
  refine wpS_take hOps rfl (fun _ _ _ h => h) (by first | exact Imp.refl _ | exact (Imp.refl _).more _ | exact ((Imp.refl _).more _).more _ | exact seps_pick _ _ (by repeat (first | exact List.Sublist.refl _ | exact List.nil_sublist _ | apply List.Sublist.cons_cons | apply List.Sublist.cons))) (GY.of_yields (yl_get rfl _ _ rfl rfl (by kernel_rfl) (fun w hw => at_raw hw 2 rfl (v := .string (sB p.nonce)) rfl))) ?_
  simp only [nrm]
  refine wpS_fcall hOps (v := ?vOp3477) rfl (fun _ _ _ h => h) (GY.call rfl _ _ _ rfl Tryd.func34 rfl (by kernel_rfl) ?yOp3477) ?_
  case yOp3477 =>
    intro L w f H
    simp only [List.map_toArray, List.map_cons, List.map_nil, nrm]
    exact (by have h := RHead_c (key := key) (e := beN 4 p.epoch) (n := p.nonce) H HK.out (by rw [beN_length]; omega) (by rw [PO.out.nonce]; omega); rw [HS.out] at h; exact h)
  simp only [nrm]
  refine wpS_fcall hOps (v := ?vOp3479) rfl (fun _ _ _ h => h) (GY.call rfl _ _ _ rfl Tryd.func35 rfl (by kernel_rfl) ?yOp3479) ?_
  case yOp3479 =>
    intro L w f H
    simp only [List.map_toArray, List.map_cons, List.map_nil, nrm]
    exact (by have h := RXor_c (a := p.head ++ zs 64) (b := Z) H (by rw [List.length_append, PO.out.head, zs_length, HZl.out]) (by rw [List.length_append, PO.out.head, zs_length]; omega); rw [HO.out] at h; exact h)
  simp only [nrm]
  refine wpS_next hOps rfl rfl ?_
  intro w H K hK
  refine wp_run rfl ?_
  refine hK _ _ _ (.inr (.inl (Imp.refl _))) H ?_
  clear hK K H
  try simp only [nrm]
  refine wpS_end (fun w H => ?_)
  clear hOps ops
  go_wp2_with ((with_reducible refine wpList_op rfl ?_); intro _ hK; first
    | (refine dst_is 32 rfl ?_; refine wp_slice 9 _ _ _ _ rfl (run_stake (l := O) (J := 64) (j := 64) under_strT rfl (by rw [HOl.out]; omega) _) ?_; rw [HB.out]; refine hK _ _ (Stop.go ?_)))
  refine Stop.un ?_
  go_wp2_with fail
  refine (RRead_c (b := B) H HBl.out).mono ?_; rintro e w' ⟨rfl, H⟩
  rw [HDS.out, HDE.out]
  go_wp2_with ((with_reducible refine wpList_op rfl ?_); intro _ hK; first
    | (refine dst_is 8 rfl ?_; refine wp_alloc_sl 45 rfl info_slot H (fun D w' (H : At w0 (raw D SlotD.zero.cells.toArray 45 :: raw Q rpZ.toArray 52 :: raw S SlotD.zero.cells.toArray 45 :: raw P (rpC p).toArray 52 :: F) w') _ => hK _ _ ?_))
    | (refine sto_is 8 rfl ?_; refine wp_store_row_sl 45 _ _ rfl (b := D) (cells := s.cells.toArray) rfl rfl (by rw [List.size_toArray, hsl.out]; exact size_slot) (by simpa using SlotD.cells_one) 0 H rfl (by rw [List.size_toArray, List.size_toArray, hsl.out]; rfl) (fun w' (H : At w0 (raw D s.cells.toArray 45 :: raw Q rpZ.toArray 52 :: raw S SlotD.zero.cells.toArray 45 :: raw P (rpC p).toArray 52 :: F) w') => hK _ _ (Stop.go ?_))))
  refine Stop.un ?_
  go_wp2_with fail
  refine wpS_begin [] (raw D s.cells.toArray 45 :: raw Q rpZ.toArray 52 :: raw S SlotD.zero.cells.toArray 45 :: raw P (rpC p).toArray 52 :: F) (.fr 0 (.tk 1 (.fr 2 (.fr 3 (.fr 4 (.tk 5 (.fr 6 (.fr 7 (.fr 8 (.fr 9 (.tk 10 (.fr 11 (.fr 12 (.tk 13 (.fr 14 (.fr 15 (.fr 16 (.tk 17 (.fr 18 (.fr 19 (.tk 20 (.fr 21 (.tk 22 (.fr 23 (.fr 24 (.fr 25 (.nx 26 (.nx 27 .nil)))))))))))))))))))))))))))) rfl (by kernel_rfl) (by kernel_rfl) H ?_
  clear H
  intro ops hOps
  refine wpS_free hOps (v := ?vOp3485) rfl (fun _ _ _ h => h) (yl rfl ?yOp3485) ?_
  case yOp3485 => (intro w hw; go_simp; first | done | rfl)
  simp only [nrm]
  refine wpS_take hOps rfl (fun _ _ _ h => h) (by first | exact Imp.refl _ | exact (Imp.refl _).more _ | exact ((Imp.refl _).more _).more _ | exact seps_pick _ _ (by repeat (first | exact List.Sublist.refl _ | exact List.nil_sublist _ | apply List.Sublist.cons_cons | apply List.Sublist.cons))) (GY.of_yields (yl_get rfl _ _ rfl rfl (by kernel_rfl) (fun w hw => at_raw hw 0 rfl h3.out))) ?_
  simp only [nrm]
  refine wpS_free hOps (v := ?vOp3489) rfl (fun _ _ _ h => h) (yl rfl ?yOp3489) ?_
  case yOp3489 => (intro w hw; go_simp; first | done | rfl)
  simp only [nrm]
  refine wpS_fcall hOps (v := ?vOp3491) rfl (fun _ _ _ h => h) (GY.call rfl _ _ _ rfl Tryd.func32 rfl (by kernel_rfl) ?yOp3491) ?_
  case yOp3491 =>
    intro L w f H
    simp only [List.map_toArray, List.map_cons, List.map_nil, nrm]
    exact (RText11_c (n := s.who) (k := 2) H (by have := SO.out.who; omega) (by omega))
  simp only [nrm]
  refine wpS_free hOps (v := ?vOp3493) rfl (fun _ _ _ h => h) (yl rfl ?yOp3493) ?_
  case yOp3493 => (intro w hw; go_simp; first | done | rfl)
  simp only [nrm]
  refine wpS_take hOps rfl (fun _ _ _ h => h) (by first | exact Imp.refl _ | exact (Imp.refl _).more _ | exact ((Imp.refl _).more _).more _ | exact seps_pick _ _ (by repeat (first | exact List.Sublist.refl _ | exact List.nil_sublist _ | apply List.Sublist.cons_cons | apply List.Sublist.cons))) (GY.of_yields (yl_get rfl _ _ rfl rfl (by kernel_rfl) (fun w hw => at_raw hw 0 rfl h4.out))) ?_
  simp only [nrm]
  refine wpS_free hOps (v := ?vOp3497) rfl (fun _ _ _ h => h) (yl rfl ?yOp3497) ?_
  case yOp3497 => (intro w hw; go_simp; first | done | rfl)
  simp only [nrm]
  refine wpS_fcall hOps (v := ?vOp3499) rfl (fun _ _ _ h => h) (GY.call rfl _ _ _ rfl Tryd.func32 rfl (by kernel_rfl) ?yOp3499) ?_
  case yOp3499 =>
    intro L w f H
    simp only [List.map_toArray, List.map_cons, List.map_nil, nrm]
    exact (RText11_c (n := s.epoch) (k := 4) H (by have := SO.out.epoch; omega) (by omega))
  simp only [nrm]
  refine wpS_free hOps (v := ?vOp3501) rfl (fun _ _ _ h => h) (yl rfl ?yOp3501) ?_
  case yOp3501 => (intro w hw; go_simp; first | done | rfl)
  simp only [nrm]
  refine wpS_free hOps (v := ?vOp3503) rfl (fun _ _ _ h => h) (yl rfl ?yOp3503) ?_
  case yOp3503 => (intro w hw; go_simp; first | done | rfl)
  simp only [nrm]
  refine wpS_take hOps rfl (fun _ _ _ h => h) (by first | exact Imp.refl _ | exact (Imp.refl _).more _ | exact ((Imp.refl _).more _).more _ | exact seps_pick _ _ (by repeat (first | exact List.Sublist.refl _ | exact List.nil_sublist _ | apply List.Sublist.cons_cons | apply List.Sublist.cons))) (GY.of_yields (yl rfl (fun w hw => exec_str_of (bs := s.nonce) rfl under_bytesT under_u8T under_strT rfl hw (see_part 0 rfl SO.out.nonce.symm (Nat.le_refl _) h5.out)))) ?_
  simp only [nrm]
  refine wpS_free hOps (v := ?vOp3507) rfl (fun _ _ _ h => h) (yl rfl ?yOp3507) ?_
  case yOp3507 => (intro w hw; go_simp; first | done | rfl)
  simp only [nrm]
  refine wpS_free hOps (v := ?vOp3509) rfl (fun _ _ _ h => h) (yl rfl ?yOp3509) ?_
  case yOp3509 => (intro w hw; go_simp; first | done | rfl)
  simp only [nrm]
  refine wpS_take hOps rfl (fun _ _ _ h => h) (by first | exact Imp.refl _ | exact (Imp.refl _).more _ | exact ((Imp.refl _).more _).more _ | exact seps_pick _ _ (by repeat (first | exact List.Sublist.refl _ | exact List.nil_sublist _ | apply List.Sublist.cons_cons | apply List.Sublist.cons))) (GY.of_yields (yl rfl (fun w hw => exec_str_of (bs := s.mac) rfl under_bytesT under_u8T under_strT rfl hw (see_part 0 rfl SO.out.mac.symm (Nat.le_refl _) h6.out)))) ?_
  simp only [nrm]
  refine wpS_free hOps rfl (fun _ _ _ h => h) (yl_move rfl _ rfl) ?_
  simp only [nrm]
  refine wpS_free hOps rfl (fun _ _ _ h => h) (yl_slice rfl 9 (.tmp 55) (some (.const (.int .i64 64))) none none rfl (v := .string (sB (O.drop 64))) (fun w => run_sfrom (P := Tryd.prog) (l := O) (i := 64) (I := 64) under_strT rfl (by rw [HOl.out]; omega) w)) ?_
  simp only [nrm]
  refine wpS_free hOps (v := ?vOp3518) rfl (fun _ _ _ h => h) (yl rfl ?yOp3518) ?_
  case yOp3518 => (intro w hw; go_simp; first | done | rfl)
  simp only [nrm]
  refine wpS_take hOps rfl (fun _ _ _ h => h) (by first | exact Imp.refl _ | exact (Imp.refl _).more _ | exact ((Imp.refl _).more _).more _ | exact seps_pick _ _ (by repeat (first | exact List.Sublist.refl _ | exact List.nil_sublist _ | apply List.Sublist.cons_cons | apply List.Sublist.cons))) (GY.of_yields (yl_get rfl _ _ rfl rfl (by kernel_rfl) (fun w hw => at_raw hw 3 rfl (v := .string (sB p.body)) rfl))) ?_
  simp only [nrm]
  refine wpS_free hOps rfl (fun _ _ _ h => h) (yl_move rfl _ rfl) ?_
  simp only [nrm]
  refine wpS_free hOps (v := ?vOp3525) rfl (fun _ _ _ h => h) (yl rfl ?yOp3525) ?_
  case yOp3525 => (intro w hw; go_simp; first | done | rfl)
  simp only [nrm]
  refine wpS_take hOps rfl (fun _ _ _ h => h) (by first | exact Imp.refl _ | exact (Imp.refl _).more _ | exact ((Imp.refl _).more _).more _ | exact seps_pick _ _ (by repeat (first | exact List.Sublist.refl _ | exact List.nil_sublist _ | apply List.Sublist.cons_cons | apply List.Sublist.cons))) (GY.of_yields (yl_get rfl _ _ rfl rfl (by kernel_rfl) (fun w hw => at_raw hw 3 rfl (v := .string (sB (beN 4 p.epoch))) rfl))) ?_
  simp only [nrm]
  refine wpS_free hOps (v := ?vOp3529) rfl (fun _ _ _ h => h) (yl rfl ?yOp3529) ?_
  case yOp3529 => (intro w hw; go_simp; first | done | rfl)
  simp only [nrm]
  refine wpS_take hOps rfl (fun _ _ _ h => h) (by first | exact Imp.refl _ | exact (Imp.refl _).more _ | exact ((Imp.refl _).more _).more _ | exact seps_pick _ _ (by repeat (first | exact List.Sublist.refl _ | exact List.nil_sublist _ | apply List.Sublist.cons_cons | apply List.Sublist.cons))) (GY.of_yields (yl_get rfl _ _ rfl rfl (by kernel_rfl) (fun w hw => at_raw hw 3 rfl (v := .string (sB p.nonce)) rfl))) ?_
  simp only [nrm]
  refine wpS_fcall hOps (v := ?vOp3533) rfl (fun _ _ _ h => h) (GY.call rfl _ _ _ rfl Tryd.func38 rfl (by kernel_rfl) ?yOp3533) ?_
  case yOp3533 =>
    intro L w f H
    simp only [List.map_toArray, List.map_cons, List.map_nil, nrm]
    exact (by have h := RBody_c (key := key) (e := beN 4 p.epoch) (n := p.nonce) H HK.out (by rw [beN_length]; omega) (by rw [PO.out.nonce]; omega); rw [HSB.out] at h; exact h)
  simp only [nrm]
  refine wpS_fcall hOps (v := ?vOp3535) rfl (fun _ _ _ h => h) (GY.call rfl _ _ _ rfl Tryd.func35 rfl (by kernel_rfl) ?yOp3535) ?_
  case yOp3535 =>
    intro L w f H
    simp only [List.map_toArray, List.map_cons, List.map_nil, nrm]
    exact (RXor_c (a := p.body) (b := Y) H (by rw [PO.out.body, HYl.out]) (by rw [PO.out.body]; omega))
  simp only [nrm]
  refine wpS_free hOps rfl (fun _ _ _ h => h) (Hg.yl_build rfl 52 _ rfl (by rw [Array.toList_map]; rfl) (fun w => built_rp w _ _ _ _ _ _)) ?_
  simp only [nrm]
  refine wpS_next hOps rfl rfl ?_
  intro w H K hK
  refine wp_alloc_sl 52 rfl rp_info H (fun N w' H _ => ?_)
  refine hK _ _ _ (.inr (.inl ((Imp.refl _).more _))) H ?_
  clear hK K H
  try simp only [nrm]
  refine wpS_next hOps rfl rfl ?_
  intro w H K hK
  refine wp_store_row_sl 52 _ _ rfl (b := N) (cells := (rpC q).toArray) rfl (by rw [HQ.out]; rfl) rp_size (rpC_one q) 0 H rfl rfl (fun w' H => ?_)
  replace H : At w0 (raw N (rpC q).toArray 52 :: raw D s.cells.toArray 45 :: raw Q rpZ.toArray 52 :: raw S SlotD.zero.cells.toArray 45 :: raw P (rpC p).toArray 52 :: F) w' := H
  refine hK _ _ _ (.inr (.inr (by first | exact Imp.refl _ | exact (Imp.refl _).more _ | exact ((Imp.refl _).more _).more _ | exact seps_pick _ _ (by repeat (first | exact List.Sublist.refl _ | exact List.nil_sublist _ | apply List.Sublist.cons_cons | apply List.Sublist.cons))))) H ?_
  clear hK K H
  try simp only [nrm]
  refine wpS_end (fun w H => ?_)
  clear hOps ops
  go_wp2_with fail
  refine wpS_begin [] ([raw N (rpC q).toArray 52, raw D s.cells.toArray 45]) (.tk 0 (.tk 1 (.nx 2 (.nx 3 (.nx 4 .nil))))) rfl (by kernel_rfl) (by kernel_rfl) H ?_
  clear H
  intro ops hOps
  refine wpS_take hOps rfl (fun _ _ _ h => h) (by first | exact Imp.refl _ | exact (Imp.refl _).more _ | exact ((Imp.refl _).more _).more _ | exact seps_pick _ _ (by repeat (first | exact List.Sublist.refl _ | exact List.nil_sublist _ | apply List.Sublist.cons_cons | apply List.Sublist.cons))) (GY.of_yields (yl_mid rfl 45 _ rfl rfl s.cells (by kernel_rfl) (by rw [hsl.out]; exact size_slot) (fun w hw => at_blk hw 1 rfl))) ?_
  simp only [nrm]
  refine wpS_take hOps rfl (fun _ _ _ h => h) (by first | exact Imp.refl _ | exact (Imp.refl _).more _ | exact ((Imp.refl _).more _).more _ | exact seps_pick _ _ (by repeat (first | exact List.Sublist.refl _ | exact List.nil_sublist _ | apply List.Sublist.cons_cons | apply List.Sublist.cons))) (GY.of_yields (yl_mid rfl 52 _ rfl rfl (rpC q) (by kernel_rfl) rp_size (fun w hw => at_blk hw 0 rfl))) ?_
  simp only [nrm]
  refine wpS_next hOps rfl rfl ?_
  intro w H K hK
  refine wp_store_row_sl 45 _ _ rfl (b := S) (cells := s.cells.toArray) rfl rfl (by rw [List.size_toArray, hsl.out]; exact size_slot) (by simpa using SlotD.cells_one) 3 H rfl (by rw [List.size_toArray, List.size_toArray, hsl.out]; rfl) (fun w' H => ?_)
  replace H : At w0 (raw N (rpC q).toArray 52 :: raw D s.cells.toArray 45 :: raw Q rpZ.toArray 52 :: raw S s.cells.toArray 45 :: raw P (rpC p).toArray 52 :: F) w' := H
  refine hK _ _ _ (.inr (.inr (seps_pick _ _ (by repeat (first | exact List.nil_sublist _ | apply List.Sublist.cons_cons))))) H ?_
  clear hK K H
  try simp only [nrm]
  refine wpS_next hOps rfl rfl ?_
  intro w H K hK
  refine wp_store_row_sl 52 _ _ rfl (b := Q) (cells := (rpC q).toArray) rfl rfl rp_size (rpC_one q) 2 H rfl rfl (fun w' H => ?_)
  replace H : At w0 (raw N (rpC q).toArray 52 :: raw D s.cells.toArray 45 :: raw Q (rpC q).toArray 52 :: raw S s.cells.toArray 45 :: raw P (rpC p).toArray 52 :: F) w' := H
  refine hK _ _ _ (.inr (.inr (seps_pick _ _ (by repeat (first | exact List.nil_sublist _ | apply List.Sublist.cons_cons))))) H ?_
  clear hK K H
  try simp only [nrm]
  refine wpS_next hOps rfl rfl ?_
  intro w H K hK
  refine wp_run rfl ?_
  refine hK _ _ _ (.inr (.inl (Imp.refl _))) H ?_
  clear hK K H
  try simp only [nrm]
  refine wpS_end (fun w H => ?_)
  clear hOps ops
  go_wp2_with fail
  exact bodyPost_ret (v := .tuple #[.agg s.cells.toArray, .agg (rpC q).toArray, .int .i64 0]) (results_row2_tmp rfl _ rfl (at_blk H 3 rfl) (by kernel_rfl) (by rw [hsl.out]; exact size_slot) rfl (at_blk H 2 rfl) (by kernel_rfl) rp_size rfl) rfl ⟨rfl, H.maskR [false, false, false, false, false]⟩
theorem RPeel_c {w0 w : World} {F : List SP} {key : List (BitVec 8)} {p : PktD} (H : At w0 F w) (hk : key.length ≤ 64) (po : p.ok) :
    Calls Tryd.prog 16 #[.string (sB key), .agg (rpC p).toArray] w fun r w' => r = .returned (.tuple #[.agg (peelOf key p).1.cells.toArray, .agg (rpE (peelOf key p).2.2 (peelOf key p).2.1).toArray, .int .i64 ((peelOf key p).2.2 : Nat)]) ∧ At w0 F w' := by
  by_cases hm : macOf key p = p.mac
  · cases hd : SlotD.dec ((openOf key p).take 64) with
    | none => rw [peelOf_none hm hd]; exact RPeel_none H hk po hm.symm hd
    | some s => rw [peelOf_some hm hd]; exact RPeel_some H hk po hm.symm hd
  · rw [peelOf_mac hm]; exact RPeel_bad H hk po (fun h => hm h.symm)
end Go.Proofs.YtgdphamdbpkjdaaDoor
