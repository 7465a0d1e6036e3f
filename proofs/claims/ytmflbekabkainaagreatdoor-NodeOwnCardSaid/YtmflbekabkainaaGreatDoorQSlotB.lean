import Derived.Test.YtmflbekabkainaaGreatDoorQSlot
set_option linter.unusedVariables false
set_option linter.unusedSimpArgs false
namespace Go.Proofs.YtmflbekabkainaaGreatDoor
open Go.RowKit Go.Hg
set_option maxRecDepth 10000 in
set_option maxHeartbeats 2000000 in
theorem swrite_c {w0 w : World} {F : List SP} {s : SlotD} (H : At w0 F w) (h : s.ok) :
    Calls Tryz.prog 134 #[.agg s.cells.toArray] w (NewB w0 F s.bytes) := by
 have hs40 := Lib.hid (SlotD.cells_length h.nonce h.mac)
 have HOK := Lib.hid h
 obtain ⟨Z, hZ⟩ : ∃ Z, Z = s.bytes := ⟨_, rfl⟩
 have hZl := Lib.hid (show Z.length = 64 by rw [hZ]; exact SlotD.bytes_length h.nonce h.mac)
 have hZe := Lib.hid (show [] ++ beN 1 s.kind ++ beN 2 s.to ++ beN 8 s.lo ++ beN 8 s.hi ++ beN 4 s.delay ++ beN 2 s.who ++ beN 4 s.epoch ++ s.nonce ++ s.mac ++ zs 3 = Z by rw [hZ]; rfl)
 have hk : (s.kind : Int) < 18446744073709551616 := by unfold SlotD.kind; split <;> omega
 have ht : (s.to : Int) < 18446744073709551616 := by have := h.box; have := h.next; unfold SlotD.to; split <;> omega
 have hlo : (s.lo : Int) < 18446744073709551616 := by have := h.lo; omega
 have hhi : (s.hi : Int) < 18446744073709551616 := by have := h.hi; omega
 have hdl : (s.delay : Int) < 18446744073709551616 := by have := h.delay; omega
 have hwh : (s.who : Int) < 18446744073709551616 := by have := h.who; omega
 have hep : (s.epoch : Int) < 18446744073709551616 := by have := h.epoch; omega
 have HK := Lib.hid hk
 have HT := Lib.hid ht
 have HLO := Lib.hid hlo
 have HHI := Lib.hid hhi
 have HDL := Lib.hid hdl
 have HWH := Lib.hid hwh
 have HEP := Lib.hid hep
 rw [← hZ]
 clear h hZ hk ht hlo hhi hdl hwh hep
 go_enter Tryz.func134, Tryz.ntmps134
 go_wp2_with ((with_reducible refine wpList_op rfl ?_); intro _ hK; first
  | (refine wp_box_sl (v := .agg s.cells.toArray) 60 _ rfl rfl H (fun A w' (H : At w0 (raw A s.cells.toArray 60 :: F) w') _ => hK _ _ ?_))
  | (refine wp_mid 60 _ rfl rfl s.cells (by kernel_rfl) (by rw [hs40.out]; exact size_slot) (at_blk H 0 rfl) (hK _ _ ?_)))
 refine (first_c H HOK.out.nonce HOK.out.mac).mono ?_; rintro e w' ⟨rfl, H⟩
 go_wp2_with ((with_reducible refine wpList_op rfl ?_); intro _ hK; refine wp_box_sl (v := .agg #[.slice none 0 0]) 172 _ rfl rfl H (fun p w' H _ => ?_); replace H := wri_new H; replace H : At w0 (wri p [] :: raw A s.cells.toArray 60 :: F) w' := H; refine hK _ _ ?_)
 refine wpM_begin [] ((fun w => At w0 (raw A s.cells.toArray 60 :: F) w)) [(0, 2), (1, 2), (3, 2), (5, 2), (6, 1), (8, 2), (9, 1), (11, 2), (12, 1), (14, 2), (15, 1), (17, 2), (18, 1), (2, 0), (4, 0), (7, 0), (10, 0), (13, 0), (16, 0), (19, 0)] rfl (by kernel_rfl) (by kernel_rfl) ((H.drew.tail)) ?_
 intro ops hOps hS
 replace H := H.drew
 iterate 4 refine fm hOps ?_
 refine tm hOps hS (fun w hw => (slot_run hw 0 rfl HOK.out.nonce HOK.out.mac).2.2.2.2.2.1) ?_
 refine fm hOps ?_
 refine tm hOps hS (fun w hw => (slot_run hw 0 rfl HOK.out.nonce HOK.out.mac).2.2.2.2.2.2.1) ?_
 refine fm hOps ?_
 refine tm hOps hS (fun w hw => (slot_run hw 0 rfl HOK.out.nonce HOK.out.mac).2.2.2.2.2.2.2) ?_
 refine fm hOps ?_
 refine tm hOps hS (fun w hw => (slot_run hw 0 rfl HOK.out.nonce HOK.out.mac).2.2.2.1) ?_
 refine fm hOps ?_
 refine tm hOps hS (fun w hw => (slot_run hw 0 rfl HOK.out.nonce HOK.out.mac).2.2.2.2.1) ?_
 refine wpM_next hOps rfl rfl ?_
 intro K hK
 refine wp_call _ _ _ rfl Tryz.func153 rfl (by kernel_rfl) ?_
 simp only [List.map_toArray, List.map_cons, List.map_nil, Act.eval, Array.getD_eq_getD_getElem?, List.getElem?_toArray, List.getElem?_cons_zero, List.getElem?_cons_succ, Option.getD_some]
 refine (wu8_c H HK.out (by simp)).mono ?_; rintro e w' ⟨rfl, H⟩
 have hS := (H.tail)
 refine hK _ _ (.inr hS) ?_
 clear hK K
 simp only [nrm]
 refine wpM_next hOps rfl rfl ?_
 intro K hK
 refine wp_call _ _ _ rfl Tryz.func72 rfl (by kernel_rfl) ?_
 simp only [List.map_toArray, List.map_cons, List.map_nil, Act.eval, Array.getD_eq_getD_getElem?, List.getElem?_toArray, List.getElem?_cons_zero, List.getElem?_cons_succ, Option.getD_some]
 refine (wu16_c H HT.out (by simp [beN_length])).mono ?_; rintro e w' ⟨rfl, H⟩
 have hS := (H.tail)
 refine hK _ _ (.inr hS) ?_
 clear hK K
 simp only [nrm]
 refine wpM_next hOps rfl rfl ?_
 intro K hK
 refine wp_call _ _ _ rfl Tryz.func154 rfl (by kernel_rfl) ?_
 simp only [List.map_toArray, List.map_cons, List.map_nil, Act.eval, Array.getD_eq_getD_getElem?, List.getElem?_toArray, List.getElem?_cons_zero, List.getElem?_cons_succ, Option.getD_some]
 refine (wu64_c H HLO.out (by simp [beN_length])).mono ?_; rintro e w' ⟨rfl, H⟩
 have hS := (H.tail)
 refine hK _ _ (.inr hS) ?_
 clear hK K
 simp only [nrm]
 refine wpM_next hOps rfl rfl ?_
 intro K hK
 refine wp_call _ _ _ rfl Tryz.func154 rfl (by kernel_rfl) ?_
 simp only [List.map_toArray, List.map_cons, List.map_nil, Act.eval, Array.getD_eq_getD_getElem?, List.getElem?_toArray, List.getElem?_cons_zero, List.getElem?_cons_succ, Option.getD_some]
 refine (wu64_c H HHI.out (by simp [beN_length])).mono ?_; rintro e w' ⟨rfl, H⟩
 have hS := (H.tail)
 refine hK _ _ (.inr hS) ?_
 clear hK K
 simp only [nrm]
 refine wpM_next hOps rfl rfl ?_
 intro K hK
 refine wp_call _ _ _ rfl Tryz.func73 rfl (by kernel_rfl) ?_
 simp only [List.map_toArray, List.map_cons, List.map_nil, Act.eval, Array.getD_eq_getD_getElem?, List.getElem?_toArray, List.getElem?_cons_zero, List.getElem?_cons_succ, Option.getD_some]
 refine (wu32_c H HDL.out (by simp [beN_length])).mono ?_; rintro e w' ⟨rfl, H⟩
 have hS := (H.tail)
 refine hK _ _ (.inr hS) ?_
 clear hK K
 simp only [nrm]
 refine wpM_next hOps rfl rfl ?_
 intro K hK
 refine wp_call _ _ _ rfl Tryz.func72 rfl (by kernel_rfl) ?_
 simp only [List.map_toArray, List.map_cons, List.map_nil, Act.eval, Array.getD_eq_getD_getElem?, List.getElem?_toArray, List.getElem?_cons_zero, List.getElem?_cons_succ, Option.getD_some]
 refine (wu16_c H HWH.out (by simp [beN_length])).mono ?_; rintro e w' ⟨rfl, H⟩
 have hS := (H.tail)
 refine hK _ _ (.inr hS) ?_
 clear hK K
 simp only [nrm]
 refine wpM_next hOps rfl rfl ?_
 intro K hK
 refine wp_call _ _ _ rfl Tryz.func73 rfl (by kernel_rfl) ?_
 simp only [List.map_toArray, List.map_cons, List.map_nil, Act.eval, Array.getD_eq_getD_getElem?, List.getElem?_toArray, List.getElem?_cons_zero, List.getElem?_cons_succ, Option.getD_some]
 refine (wu32_c H HEP.out (by simp [beN_length])).mono ?_; rintro e w' ⟨rfl, H⟩
 have hS := (H.tail)
 refine hK _ _ (.inr hS) ?_
 clear hK K
 simp only [nrm]
 refine wpM_end ?_
 clear hOps hS ops
 generalize hY : [] ++ beN 1 s.kind ++ beN 2 s.to ++ beN 8 s.lo ++ beN 8 s.hi ++ beN 4 s.delay ++ beN 2 s.who ++ beN 4 s.epoch = Y at H hZe
 have hYl := Lib.hid (show Y.length = 29 by rw [← hY]; simp [beN_length])
 clear hY
 have hvn : (s.cells.drop 5).take 16 = v8 s.nonce := SlotD.cells_nonce HOK.out.nonce
 have hvm : (s.cells.drop 21).take 16 = v8 s.mac := SlotD.cells_mac HOK.out.nonce HOK.out.mac
 have HVN := Lib.hid hvn
 have HVM := Lib.hid hvm
 clear hvn hvm
 go_wp2_with fail
 refine wpM_begin [] ((fun w => At w0 (raw A s.cells.toArray 60 :: F) w)) [(0, 2), (1, 2), (2, 2), (4, 2), (5, 2), (3, 0), (6, 0), (7, 0), (8, 0), (9, 0)] rfl (by kernel_rfl) (by kernel_rfl) ((H.drew.tail)) ?_
 intro ops hOps hS
 replace H := H.drew
 iterate 5 refine fm hOps ?_
 refine wpM_next hOps rfl rfl ?_
 intro K hK
 refine wp_call _ _ _ rfl Tryz.func74 rfl (by kernel_rfl) ?_
 simp only [List.map_toArray, List.map_cons, List.map_nil, Act.eval, Array.getD_eq_getD_getElem?, List.getElem?_toArray, List.getElem?_cons_zero, List.getElem?_cons_succ, Option.getD_some]
 refine (wbytes_c (xs := s.nonce) H (see_part 0 rfl HOK.out.nonce.symm (Nat.le_refl _) HVN.out) (by rw [hYl.out, HOK.out.nonce]; omega)).mono ?_; rintro e w' ⟨rfl, H⟩
 have hS := (H.tail)
 refine hK _ _ (.inr hS) ?_
 clear hK K
 simp only [nrm]
 refine wpM_next hOps rfl rfl ?_
 intro K hK
 refine wp_call _ _ _ rfl Tryz.func74 rfl (by kernel_rfl) ?_
 simp only [List.map_toArray, List.map_cons, List.map_nil, Act.eval, Array.getD_eq_getD_getElem?, List.getElem?_toArray, List.getElem?_cons_zero, List.getElem?_cons_succ, Option.getD_some]
 refine (wbytes_c (xs := s.mac) H (see_part 0 rfl HOK.out.mac.symm (Nat.le_refl _) HVM.out) (by rw [List.length_append, hYl.out, HOK.out.nonce, HOK.out.mac]; omega)).mono ?_; rintro e w' ⟨rfl, H⟩
 have hS := (H.tail)
 refine hK _ _ (.inr hS) ?_
 clear hK K
 simp only [nrm]
 refine wpM_next hOps rfl rfl ?_
 intro K hK
 refine wp_call _ _ _ rfl Tryz.func155 rfl (by kernel_rfl) ?_
 simp only [List.map_toArray, List.map_cons, List.map_nil, Act.eval, Array.getD_eq_getD_getElem?, List.getElem?_toArray, List.getElem?_cons_zero, List.getElem?_cons_succ, Option.getD_some]
 refine (wzeros_c (n := 3) H (by rw [List.length_append, List.length_append, hYl.out, HOK.out.nonce, HOK.out.mac]; omega)).mono ?_; rintro e w' ⟨rfl, H⟩
 rw [hZe.out] at H
 have hS := (H.tail)
 refine hK _ _ (.inr hS) ?_
 clear hK K
 simp only [nrm]
 refine wpM_next hOps rfl rfl ?_
 intro K hK
 refine wp_call _ _ _ rfl Tryz.func75 rfl (by kernel_rfl) ?_
 simp only [List.map_toArray, List.map_cons, List.map_nil, Act.eval, Array.getD_eq_getD_getElem?, List.getElem?_toArray, List.getElem?_cons_zero, List.getElem?_cons_succ, Option.getD_some]
 refine (wdone_c H (by rw [hZl.out]; omega)).mono ?_; rintro e w' ⟨za, zq, rfl, H⟩
 rw [hZl.out] at H ⊢
 have hS := (H.tail.tail)
 refine hK _ _ (.inr hS) ?_
 clear hK K
 simp only [nrm]
 refine wpM_next hOps rfl rfl ?_
 intro K hK
 refine wp_run rfl ?_
 have hS := (hS)
 refine hK _ _ (.inr hS) ?_
 clear hK K
 simp only [nrm]
 refine wpM_end ?_
 clear hOps hS ops
 go_wp2
 go_ret
 exact ⟨za, zq, by rw [hZl.out]; rfl, by rw [hZl.out]; exact H.maskR [true, false, false]⟩
def EncB (s : SlotD) : List (BitVec 8) := if s.right then s.bytes else zs 64
theorem EncB_length {s : SlotD} (h : s.ok) : (EncB s).length = 64 := by
 unfold EncB
 split
 · exact SlotD.bytes_length h.nonce h.mac
 · exact zs_length 64
set_option maxRecDepth 10000 in
set_option maxHeartbeats 1000000 in
theorem encode_c {w0 w : World} {F : List SP} {s : SlotD} (H : At w0 F w) (h : s.ok) :
    Calls Tryz.prog 119 #[.agg s.cells.toArray] w fun e w' => e = .returned (.tuple #[.agg (v8 (EncB s)).toArray, .int .i64 (if s.right then 0 else 1)]) ∧ At w0 F w' := by
 have hs40 := Lib.hid (SlotD.cells_length h.nonce h.mac)
 have HOK := Lib.hid h
 cases hr : s.right with
 | true =>
  obtain ⟨Z, hZ⟩ : ∃ Z, Z = s.bytes := ⟨_, rfl⟩
  have hZl := Lib.hid (show Z.length = 64 by rw [hZ]; exact SlotD.bytes_length h.nonce h.mac)
  have hE : EncB s = Z := by unfold EncB; rw [hr, hZ]; rfl
  rw [hE]
  have HZ := Lib.hid hZ
  have HR := Lib.hid hr
  clear h hZ hE hr
  go_enter Tryz.func119, Tryz.ntmps119
  go_wp2_with ((with_reducible refine wpList_op rfl ?_); intro _ hK; first
   | (refine wp_box_sl (v := .agg s.cells.toArray) 60 _ rfl rfl H (fun A w' (H : At w0 (raw A s.cells.toArray 60 :: F) w') _ => hK _ _ ?_))
   | (refine wp_alloc_sl 200 rfl info_b64 H (fun O w' (H : At w0 (raw O (v8 (zs 64)).toArray 200 :: raw A s.cells.toArray 60 :: F) w') _ => hK _ _ ?_))
   | (refine wp_mid 60 _ rfl rfl s.cells (by kernel_rfl) (by rw [hs40.out]; exact size_slot) (at_blk H 1 rfl) (hK _ _ ?_)))
  refine (right_c H HOK.out).mono ?_; rintro e w' ⟨rfl, H⟩
  rw [HR.out]
  go_wp2_with ((with_reducible refine wpList_op rfl ?_); intro _ hK; refine wp_mid 60 _ rfl rfl s.cells (by kernel_rfl) (by rw [hs40.out]; exact size_slot) (at_blk H 1 rfl) (hK _ _ ?_))
  refine (swrite_c H HOK.out).mono ?_; rintro e w' ⟨za, zq, rfl, H⟩
  rw [← HZ.out, hZl.out] at H ⊢
  obtain ⟨g, off, rfl⟩ := lrow_place_n hZl.out.symm H 0 rfl (by omega)
  go_wp2_with ((with_reducible refine wpList_op rfl ?_); intro _ hK; first
   | (refine wp_arr 200 _ rfl under_b64 rfl (by omega) (hK _ _ ?_))
   | (refine wp_mid 200 _ rfl rfl (v8 Z) (by kernel_rfl) (by rw [v8_length, hZl.out]; exact size_b64) (by have hx := see_range H (see_own el_u8 H 0 hZl.out.symm rfl) 64; rwa [List.take_of_length_le (by rw [hZl.out]; exact Nat.le_refl _)] at hx) (hK _ _ ?_))
   | (refine wp_sta 200 _ _ rfl (cs := Z) rfl rfl (by rw [hZl.out]; exact size_b64) 1 H rfl (by rw [hZl.out, zs_length]) (fun w' H => ?_); replace H := H.maskR [false, true, false]; replace H : At w0 (raw O (v8 Z).toArray 200 :: F) w' := H; refine hK _ _ ?_))
  exact bodyPost_ret (v := .tuple #[.agg (v8 Z).toArray, .int .i64 0]) (results_row_tmp rfl _ rfl (at_blk H 0 rfl) (by kernel_rfl) (by rw [v8_length, hZl.out]; exact size_b64) rfl) rfl ⟨rfl, H.tail⟩
 | false =>
  have hE : EncB s = zs 64 := by unfold EncB; rw [hr]; rfl
  rw [hE]
  have HR := Lib.hid hr
  clear h hE hr
  go_enter Tryz.func119, Tryz.ntmps119
  go_wp2_with ((with_reducible refine wpList_op rfl ?_); intro _ hK; first
   | (refine wp_box_sl (v := .agg s.cells.toArray) 60 _ rfl rfl H (fun A w' (H : At w0 (raw A s.cells.toArray 60 :: F) w') _ => hK _ _ ?_))
   | (refine wp_alloc_sl 200 rfl info_b64 H (fun O w' (H : At w0 (raw O (v8 (zs 64)).toArray 200 :: raw A s.cells.toArray 60 :: F) w') _ => hK _ _ ?_))
   | (refine wp_mid 60 _ rfl rfl s.cells (by kernel_rfl) (by rw [hs40.out]; exact size_slot) (at_blk H 1 rfl) (hK _ _ ?_)))
  refine (right_c H HOK.out).mono ?_; rintro e w' ⟨rfl, H⟩
  rw [HR.out]
  go_wp2_with ((with_reducible refine wpList_op rfl ?_); intro _ hK; refine wp_sta 200 _ _ rfl (cs := zs 64) rfl rfl (by kernel_rfl) 0 H rfl rfl (fun w' (H : At w0 (raw O (v8 (zs 64)).toArray 200 :: raw A s.cells.toArray 60 :: F) w') => hK _ _ ?_))
  exact bodyPost_ret (v := .tuple #[.agg (v8 (zs 64)).toArray, .int .i64 1]) (results_row_tmp rfl _ rfl (at_blk H 0 rfl) (by kernel_rfl) (by kernel_rfl) rfl) rfl ⟨rfl, H.tail.tail⟩
set_option maxRecDepth 10000 in
set_option maxHeartbeats 1000000 in
theorem fill_c {w0 w : World} {F : List SP} {p b off n cap : Nat} {bs : List (BitVec 8)} {cs : List Value} {t : TypeId} (H : At w0 (rdr p bs :: raw b cs.toArray t :: F) w) (hn : n ≤ bs.length) (h0 : 0 < n) (hb : bs.length ≤ 1000000) (hfit : off + n ≤ cs.length) :
    Calls Tryz.prog 87 #[.pointer (some ⟨p, 0, none⟩), .slice (some ⟨b, off, none⟩) n cap] w fun e w' => e = .returned (.tuple #[]) ∧ At w0 (rdr p (bs.drop n) :: raw b (cs.take off ++ v8 (bs.take n) ++ cs.drop (off + n)).toArray t :: F) w' := by
 have htl := Lib.hid (show (bs.take n).length = n by rw [List.length_take]; omega)
 have HN := Lib.hid hn
 have HB := Lib.hid hb
 have HF := Lib.hid hfit
 have hnb : (n : Int) ≤ 1000000 := by omega
 clear hn hb hfit
 go_enter Tryz.func87, Tryz.ntmps87
 go_wp2_with fail
 refine (rbytes_c H HN.out (by have := HB.out; omega)).mono ?_; rintro e w' ⟨a, q, rfl, H⟩
 obtain ⟨g, o2, rfl⟩ := lrow_place_n htl.out.symm H 0 rfl h0
 have hse := see_own el_u8 H 0 htl.out.symm rfl
 have hsrc : ∀ i u, (v8 (bs.take n))[i]? = some u → w'.cell? (Addr.add ⟨g, o2, none⟩ i) = some u := fun i u hi => by
  have := see_range H hse n
  rw [List.take_of_length_le (by rw [htl.out]; exact Nat.le_refl _)] at this
  rw [Addr.add_lit]
  exact this i u hi
 have HS := Lib.hid hsrc
 clear hse hsrc
 go_wp2_with ((with_reducible refine wpList_op rfl ?_); intro _ hK; (refine wp_copy_in (e := 5) _ _ _ _ rfl (by kernel_rfl) (by kernel_rfl) rfl rfl 2 H rfl (cs := v8 (bs.take n)) (by rw [v8_length, htl.out, Nat.min_self]) HS.out (by rw [v8_length, htl.out]; exact HF.out) (v8_one _) (fun w' H => ?_); rw [v8_length, htl.out] at H; rw [v8_length, htl.out]; replace H := H.maskR [false, true, true]; refine hK _ _ ?_))
 go_end0
 exact ⟨rfl, by rw [← List.append_assoc]; exact H⟩
theorem take16_length {b : List (BitVec 8)} (hb : b.length = 64) {p : Nat} (hp : p + 16 ≤ 64) : ((b.drop p).take 16).length = 16 := by rw [List.length_take, List.length_drop]; omega
set_option maxRecDepth 10000 in
set_option maxHeartbeats 4000000 in
theorem sread_c {w0 w : World} {F : List SP} {v : Value} {b : List (BitVec 8)} (H : At w0 F w) (hv : SeeB w0 F v b) (hb : b.length = 64) :
    Calls Tryz.prog 118 #[v] w fun e w' => e = .returned (.agg (SlotD.readD b).cells.toArray) ∧ At w0 F w' := by
 obtain ⟨va, vc, rfl, _, _⟩ := hv.slice
 rw [hb] at hv ⊢
 have HV := Lib.hid hv
 have HB := Lib.hid hb
 have hok := Lib.hid (SlotD.readD_ok hb)
 obtain ⟨T, hT⟩ : ∃ T, T = SlotD.readD b := ⟨_, rfl⟩
 rw [← hT] at hok ⊢
 have HT := Lib.hid hT
 have hT40 := Lib.hid (SlotD.cells_length hok.out.nonce hok.out.mac)
 have hl : ∀ k, (b.drop k).length = 64 - k := fun k => by rw [List.length_drop, hb]
 have HL := Lib.hid hl
 have hd : ∀ k m, (b.drop k).drop m = b.drop (k + m) := fun k m => List.drop_drop
 have HD := Lib.hid hd
 have h16a := Lib.hid (take16_length hb (p := 29) (by omega))
 have h16b := Lib.hid (take16_length hb (p := 45) (by omega))
 clear hv hb hT hl hd
 go_enter Tryz.func118, Tryz.ntmps118
 go_wp2_with ((with_reducible refine wpList_op rfl ?_); intro _ hK; refine wp_alloc_sl 60 rfl info_slot H (fun A w' (H : At w0 (raw A SlotD.zero.cells.toArray 60 :: F) w') _ => hK _ _ ?_))
 refine (read_c H (HV.out.more _) (by rw [HB.out]; omega)).mono ?_; rintro e w' ⟨p, rfl, H⟩
 go_wp2_with fail
 refine (ru8_c H (by rw [HB.out]; omega) (by rw [HB.out]; omega)).mono ?_; rintro e w' ⟨rfl, H⟩
 go_wp2_with fail
 refine (ru16_c H (by rw [HL.out]; omega) (by rw [HL.out]; omega)).mono ?_; rintro e w' ⟨rfl, H⟩
 rw [HD.out] at H
 obtain ⟨k, hk⟩ : ∃ k, k = deN (b.take 1) := ⟨_, rfl⟩
 obtain ⟨to, hto⟩ : ∃ to, to = deN ((b.drop 1).take 2) := ⟨_, rfl⟩
 rw [← hk, ← hto]
 obtain ⟨l, hll⟩ : ∃ l, l = decide (k = 1) := ⟨_, rfl⟩
 have hkl : ((k : Int) == 1) = l := by
  rw [hll, Bool.eq_iff_iff, beq_iff_eq, decide_eq_true_iff]
  omega
 have HLL := Lib.hid hll
 have HK := Lib.hid hk
 have HTO := Lib.hid hto
 clear hll hk hto
 replace H : At w0 (rdr p (b.drop 3) :: raw A SlotD.zero.cells.toArray 60 :: F) w' := H
 obtain ⟨S1, hS1⟩ : ∃ S1 : SlotD, S1 = ⟨l, if l then 0 else to, if l then to else 0, 0, 0, zs 16, zs 16, 0, 0, 0⟩ := ⟨_, rfl⟩
 have hS1n := Lib.hid (show S1.nonce.length = 16 by rw [hS1]; exact zs_length 16)
 have hS1m := Lib.hid (show S1.mac.length = 16 by rw [hS1]; exact zs_length 16)
 have hfin : T = { S1 with lo := deN ((b.drop 3).take 8), hi := deN ((b.drop 11).take 8), delay := deN ((b.drop 19).take 4), who := deN ((b.drop 23).take 2), epoch := deN ((b.drop 25).take 4), nonce := (b.drop 29).take 16, mac := (b.drop 45).take 16 } := by
  rw [HT.out, hS1, HLL.out, HK.out, HTO.out]
  rfl
 have HFIN := Lib.hid hfin
 clear hfin
 cases l
 · have hS1b : (SlotD.zero.cells.toArray.setIfInBounds 0 (.bool false)).setIfInBounds 1 (.int .u16 (to : Int)) = S1.cells.toArray := by rw [SlotD.set_last, SlotD.set_next, hS1]; rfl
   have HS1 := Lib.hid hS1b
   clear hS1b hS1
   go_wp2_with ((with_reducible refine wpList_op rfl ?_); intro _ hK; first
    | (refine wp_store_sl 4 _ _ rfl (off := 0) (v := .bool false) rfl rfl (by kernel_rfl) rfl 1 H rfl (show 0 < 40 by omega) (fun w' (H : At w0 (rdr p (b.drop 3) :: raw A (SlotD.zero.cells.toArray.setIfInBounds 0 (.bool false)) 60 :: F) w') => hK _ _ ?_))
    | (refine wp_get 4 _ rfl rfl (by kernel_rfl) (v := .bool false) (by rw [raw_cell (H.heap 1 rfl)]; rfl) (hK _ _ ?_))
    | (refine wp_store_sl 28 _ _ rfl (off := 1) (v := .int .u16 (to : Int)) rfl rfl (by kernel_rfl) rfl 1 H rfl (by rw [Array.size_setIfInBounds]; exact (show 1 < 40 by omega)) (fun w' H => ?_); rw [HS1.out] at H; replace H : At w0 (rdr p (b.drop 3) :: raw A S1.cells.toArray 60 :: F) w' := H; refine hK _ _ ?_))
   refine (ru64_c H (by rw [HL.out]; omega) (by rw [HL.out]; omega)).mono ?_; rintro e w' ⟨rfl, H⟩
   rw [HD.out] at H
   obtain ⟨x, hx⟩ : ∃ x, x = deN ((b.drop 3).take 8) := ⟨_, rfl⟩
   rw [← hx]
   obtain ⟨S2, hs⟩ : ∃ s, s = { S1 with lo := x } := ⟨_, rfl⟩
   have hst := (SlotD.set_lo S1 hS1n.out hS1m.out) x
   rw [← hs] at hst
   have HST := Lib.hid hst
   have hS2n := Lib.hid (show S2.nonce.length = 16 by rw [hs]; exact hS1n.out)
   have hS2m := Lib.hid (show S2.mac.length = 16 by rw [hs]; exact hS1m.out)
   have HS2 := Lib.hid (show S2 = { S1 with lo := deN ((b.drop 3).take 8) } by rw [hs, hx])
   have h40 := Lib.hid (SlotD.cells_length hS1n.out hS1m.out)
   clear hx hs hst
   go_wp2_with ((with_reducible refine wpList_op rfl ?_); intro _ hK; refine wp_store_sl 22 _ _ rfl (off := 37) (v := .int .u64 (x : Int)) rfl rfl (by kernel_rfl) rfl 1 H rfl (by rw [List.size_toArray, h40.out]; omega) (fun w' H => ?_); rw [HST.out] at H; replace H : At w0 (rdr p (b.drop 11) :: raw A S2.cells.toArray 60 :: F) w' := H; refine hK _ _ ?_)
   clear HST h40
   refine (ru64_c H (by rw [HL.out]; omega) (by rw [HL.out]; omega)).mono ?_; rintro e w' ⟨rfl, H⟩
   rw [HD.out] at H
   obtain ⟨x, hx⟩ : ∃ x, x = deN ((b.drop 11).take 8) := ⟨_, rfl⟩
   rw [← hx]
   obtain ⟨S3, hs⟩ : ∃ s, s = { S2 with hi := x } := ⟨_, rfl⟩
   have hst := (SlotD.set_hi S2 hS2n.out hS2m.out) x
   rw [← hs] at hst
   have HST := Lib.hid hst
   have hS3n := Lib.hid (show S3.nonce.length = 16 by rw [hs]; exact hS2n.out)
   have hS3m := Lib.hid (show S3.mac.length = 16 by rw [hs]; exact hS2m.out)
   have HS3 := Lib.hid (show S3 = { S2 with hi := deN ((b.drop 11).take 8) } by rw [hs, hx])
   have h40 := Lib.hid (SlotD.cells_length hS2n.out hS2m.out)
   clear hx hs hst
   go_wp2_with ((with_reducible refine wpList_op rfl ?_); intro _ hK; refine wp_store_sl 22 _ _ rfl (off := 38) (v := .int .u64 (x : Int)) rfl rfl (by kernel_rfl) rfl 1 H rfl (by rw [List.size_toArray, h40.out]; omega) (fun w' H => ?_); rw [HST.out] at H; replace H : At w0 (rdr p (b.drop 19) :: raw A S3.cells.toArray 60 :: F) w' := H; refine hK _ _ ?_)
   clear HST h40
   refine (ru32_c H (by rw [HL.out]; omega) (by rw [HL.out]; omega)).mono ?_; rintro e w' ⟨rfl, H⟩
   rw [HD.out] at H
   obtain ⟨x, hx⟩ : ∃ x, x = deN ((b.drop 19).take 4) := ⟨_, rfl⟩
   rw [← hx]
   obtain ⟨S4, hs⟩ : ∃ s, s = { S3 with delay := x } := ⟨_, rfl⟩
   have hst := (SlotD.set_delay S3 hS3n.out hS3m.out) x
   rw [← hs] at hst
   have HST := Lib.hid hst
   have hS4n := Lib.hid (show S4.nonce.length = 16 by rw [hs]; exact hS3n.out)
   have hS4m := Lib.hid (show S4.mac.length = 16 by rw [hs]; exact hS3m.out)
   have HS4 := Lib.hid (show S4 = { S3 with delay := deN ((b.drop 19).take 4) } by rw [hs, hx])
   have h40 := Lib.hid (SlotD.cells_length hS3n.out hS3m.out)
   clear hx hs hst
   go_wp2_with ((with_reducible refine wpList_op rfl ?_); intro _ hK; refine wp_store_sl 36 _ _ rfl (off := 39) (v := .int .u32 (x : Int)) rfl rfl (by kernel_rfl) rfl 1 H rfl (by rw [List.size_toArray, h40.out]; omega) (fun w' H => ?_); rw [HST.out] at H; replace H : At w0 (rdr p (b.drop 23) :: raw A S4.cells.toArray 60 :: F) w' := H; refine hK _ _ ?_)
   clear HST h40
   refine (ru16_c H (by rw [HL.out]; omega) (by rw [HL.out]; omega)).mono ?_; rintro e w' ⟨rfl, H⟩
   rw [HD.out] at H
   obtain ⟨x, hx⟩ : ∃ x, x = deN ((b.drop 23).take 2) := ⟨_, rfl⟩
   rw [← hx]
   obtain ⟨S5, hs⟩ : ∃ s, s = { S4 with who := x } := ⟨_, rfl⟩
   have hst := (SlotD.set_who S4) x
   rw [← hs] at hst
   have HST := Lib.hid hst
   have hS5n := Lib.hid (show S5.nonce.length = 16 by rw [hs]; exact hS4n.out)
   have hS5m := Lib.hid (show S5.mac.length = 16 by rw [hs]; exact hS4m.out)
   have HS5 := Lib.hid (show S5 = { S4 with who := deN ((b.drop 23).take 2) } by rw [hs, hx])
   have h40 := Lib.hid (SlotD.cells_length hS4n.out hS4m.out)
   clear hx hs hst
   go_wp2_with ((with_reducible refine wpList_op rfl ?_); intro _ hK; refine wp_store_sl 45 _ _ rfl (off := 3) (v := .int .u16 (x : Int)) rfl rfl (by kernel_rfl) rfl 1 H rfl (by rw [List.size_toArray, h40.out]; omega) (fun w' H => ?_); rw [HST.out] at H; replace H : At w0 (rdr p (b.drop 25) :: raw A S5.cells.toArray 60 :: F) w' := H; refine hK _ _ ?_)
   clear HST h40
   refine (ru32_c H (by rw [HL.out]; omega) (by rw [HL.out]; omega)).mono ?_; rintro e w' ⟨rfl, H⟩
   rw [HD.out] at H
   obtain ⟨x, hx⟩ : ∃ x, x = deN ((b.drop 25).take 4) := ⟨_, rfl⟩
   rw [← hx]
   obtain ⟨S6, hs⟩ : ∃ s, s = { S5 with epoch := x } := ⟨_, rfl⟩
   have hst := (SlotD.set_epoch S5) x
   rw [← hs] at hst
   have HST := Lib.hid hst
   have hS6n := Lib.hid (show S6.nonce.length = 16 by rw [hs]; exact hS5n.out)
   have hS6m := Lib.hid (show S6.mac.length = 16 by rw [hs]; exact hS5m.out)
   have HS6 := Lib.hid (show S6 = { S5 with epoch := deN ((b.drop 25).take 4) } by rw [hs, hx])
   have h40 := Lib.hid (SlotD.cells_length hS5n.out hS5m.out)
   clear hx hs hst
   go_wp2_with ((with_reducible refine wpList_op rfl ?_); intro _ hK; refine wp_store_sl 36 _ _ rfl (off := 4) (v := .int .u32 (x : Int)) rfl rfl (by kernel_rfl) rfl 1 H rfl (by rw [List.size_toArray, h40.out]; omega) (fun w' H => ?_); rw [HST.out] at H; replace H : At w0 (rdr p (b.drop 29) :: raw A S6.cells.toArray 60 :: F) w' := H; refine hK _ _ ?_)
   clear HST h40
   have h640 := Lib.hid (SlotD.cells_length hS6n.out hS6m.out)
   refine (fill_c (off := 5) H (by rw [HL.out]; omega) (by omega) (by rw [HL.out]; omega) (by rw [h640.out]; omega)).mono ?_; rintro e w' ⟨rfl, H⟩
   obtain ⟨S7, hS7⟩ : ∃ s, s = { S6 with nonce := (b.drop 29).take 16 } := ⟨_, rfl⟩
   have hp7 := SlotD.put_nonce S6 hS6n.out ((b.drop 29).take 16) h16a.out
   rw [← hS7] at hp7
   have hS7n := Lib.hid (show S7.nonce.length = 16 by rw [hS7]; exact h16a.out)
   have hS7m := Lib.hid (show S7.mac.length = 16 by rw [hS7]; exact hS6m.out)
   have HS7 := Lib.hid hS7
   rw [v8_length, h16a.out] at hp7
   rw [hp7, HD.out] at H
   clear hp7 hS7
   have h740 := Lib.hid (SlotD.cells_length hS7n.out hS7m.out)
   go_wp2_with fail
   refine (fill_c (off := 21) H (by rw [HL.out]; omega) (by omega) (by rw [HL.out]; omega) (by rw [h740.out]; omega)).mono ?_; rintro e w' ⟨rfl, H⟩
   have hp8 := SlotD.put_mac S7 hS7n.out hS7m.out ((b.drop 45).take 16) h16b.out
   rw [v8_length, h16b.out] at hp8
   have h8 : ({ S7 with mac := (b.drop 45).take 16 } : SlotD) = T := by rw [HS7.out, HS6.out, HS5.out, HS4.out, HS3.out, HS2.out, HFIN.out]
   rw [hp8, h8] at H
   clear hp8 h8
   replace H : At w0 (raw A T.cells.toArray 60 :: F) w' := H.tail
   go_wp2_with ((with_reducible refine wpList_op rfl ?_); intro _ hK; first
    | (refine wp_mid 60 _ rfl rfl T.cells (by kernel_rfl) (by rw [hT40.out]; exact size_slot) (at_blk H 0 rfl) (hK _ _ ?_))
    | (refine wp_store_row_sl 60 _ _ rfl (cells := T.cells.toArray) rfl rfl (by rw [List.size_toArray, hT40.out]; exact size_slot) (by simpa using SlotD.cells_one) 0 H rfl rfl (fun w' (H : At w0 (raw A T.cells.toArray 60 :: F) w') => hK _ _ ?_)))
   exact bodyPost_ret (v := .agg T.cells.toArray) (results_row rfl _ rfl (at_blk H 0 rfl) (by kernel_rfl) (by rw [hT40.out]; exact size_slot)) rfl ⟨rfl, H.tail⟩
 · have hS1b : (SlotD.zero.cells.toArray.setIfInBounds 0 (.bool true)).setIfInBounds 2 (.int .u16 (to : Int)) = S1.cells.toArray := by rw [SlotD.set_last, SlotD.set_box, hS1]; rfl
   have HS1 := Lib.hid hS1b
   clear hS1b hS1
   go_wp2_with ((with_reducible refine wpList_op rfl ?_); intro _ hK; first
    | (refine wp_store_sl 4 _ _ rfl (off := 0) (v := .bool true) rfl rfl (by kernel_rfl) rfl 1 H rfl (show 0 < 40 by omega) (fun w' (H : At w0 (rdr p (b.drop 3) :: raw A (SlotD.zero.cells.toArray.setIfInBounds 0 (.bool true)) 60 :: F) w') => hK _ _ ?_))
    | (refine wp_get 4 _ rfl rfl (by kernel_rfl) (v := .bool true) (by rw [raw_cell (H.heap 1 rfl)]; rfl) (hK _ _ ?_))
    | (refine wp_store_sl 55 _ _ rfl (off := 2) (v := .int .u16 (to : Int)) rfl rfl (by kernel_rfl) rfl 1 H rfl (by rw [Array.size_setIfInBounds]; exact (show 2 < 40 by omega)) (fun w' H => ?_); rw [HS1.out] at H; replace H : At w0 (rdr p (b.drop 3) :: raw A S1.cells.toArray 60 :: F) w' := H; refine hK _ _ ?_))
   refine (ru64_c H (by rw [HL.out]; omega) (by rw [HL.out]; omega)).mono ?_; rintro e w' ⟨rfl, H⟩
   rw [HD.out] at H
   obtain ⟨x, hx⟩ : ∃ x, x = deN ((b.drop 3).take 8) := ⟨_, rfl⟩
   rw [← hx]
   obtain ⟨S2, hs⟩ : ∃ s, s = { S1 with lo := x } := ⟨_, rfl⟩
   have hst := (SlotD.set_lo S1 hS1n.out hS1m.out) x
   rw [← hs] at hst
   have HST := Lib.hid hst
   have hS2n := Lib.hid (show S2.nonce.length = 16 by rw [hs]; exact hS1n.out)
   have hS2m := Lib.hid (show S2.mac.length = 16 by rw [hs]; exact hS1m.out)
   have HS2 := Lib.hid (show S2 = { S1 with lo := deN ((b.drop 3).take 8) } by rw [hs, hx])
   have h40 := Lib.hid (SlotD.cells_length hS1n.out hS1m.out)
   clear hx hs hst
   go_wp2_with ((with_reducible refine wpList_op rfl ?_); intro _ hK; refine wp_store_sl 22 _ _ rfl (off := 37) (v := .int .u64 (x : Int)) rfl rfl (by kernel_rfl) rfl 1 H rfl (by rw [List.size_toArray, h40.out]; omega) (fun w' H => ?_); rw [HST.out] at H; replace H : At w0 (rdr p (b.drop 11) :: raw A S2.cells.toArray 60 :: F) w' := H; refine hK _ _ ?_)
   clear HST h40
   refine (ru64_c H (by rw [HL.out]; omega) (by rw [HL.out]; omega)).mono ?_; rintro e w' ⟨rfl, H⟩
   rw [HD.out] at H
   obtain ⟨x, hx⟩ : ∃ x, x = deN ((b.drop 11).take 8) := ⟨_, rfl⟩
   rw [← hx]
   obtain ⟨S3, hs⟩ : ∃ s, s = { S2 with hi := x } := ⟨_, rfl⟩
   have hst := (SlotD.set_hi S2 hS2n.out hS2m.out) x
   rw [← hs] at hst
   have HST := Lib.hid hst
   have hS3n := Lib.hid (show S3.nonce.length = 16 by rw [hs]; exact hS2n.out)
   have hS3m := Lib.hid (show S3.mac.length = 16 by rw [hs]; exact hS2m.out)
   have HS3 := Lib.hid (show S3 = { S2 with hi := deN ((b.drop 11).take 8) } by rw [hs, hx])
   have h40 := Lib.hid (SlotD.cells_length hS2n.out hS2m.out)
   clear hx hs hst
   go_wp2_with ((with_reducible refine wpList_op rfl ?_); intro _ hK; refine wp_store_sl 22 _ _ rfl (off := 38) (v := .int .u64 (x : Int)) rfl rfl (by kernel_rfl) rfl 1 H rfl (by rw [List.size_toArray, h40.out]; omega) (fun w' H => ?_); rw [HST.out] at H; replace H : At w0 (rdr p (b.drop 19) :: raw A S3.cells.toArray 60 :: F) w' := H; refine hK _ _ ?_)
   clear HST h40
   refine (ru32_c H (by rw [HL.out]; omega) (by rw [HL.out]; omega)).mono ?_; rintro e w' ⟨rfl, H⟩
   rw [HD.out] at H
   obtain ⟨x, hx⟩ : ∃ x, x = deN ((b.drop 19).take 4) := ⟨_, rfl⟩
   rw [← hx]
   obtain ⟨S4, hs⟩ : ∃ s, s = { S3 with delay := x } := ⟨_, rfl⟩
   have hst := (SlotD.set_delay S3 hS3n.out hS3m.out) x
   rw [← hs] at hst
   have HST := Lib.hid hst
   have hS4n := Lib.hid (show S4.nonce.length = 16 by rw [hs]; exact hS3n.out)
   have hS4m := Lib.hid (show S4.mac.length = 16 by rw [hs]; exact hS3m.out)
   have HS4 := Lib.hid (show S4 = { S3 with delay := deN ((b.drop 19).take 4) } by rw [hs, hx])
   have h40 := Lib.hid (SlotD.cells_length hS3n.out hS3m.out)
   clear hx hs hst
   go_wp2_with ((with_reducible refine wpList_op rfl ?_); intro _ hK; refine wp_store_sl 36 _ _ rfl (off := 39) (v := .int .u32 (x : Int)) rfl rfl (by kernel_rfl) rfl 1 H rfl (by rw [List.size_toArray, h40.out]; omega) (fun w' H => ?_); rw [HST.out] at H; replace H : At w0 (rdr p (b.drop 23) :: raw A S4.cells.toArray 60 :: F) w' := H; refine hK _ _ ?_)
   clear HST h40
   refine (ru16_c H (by rw [HL.out]; omega) (by rw [HL.out]; omega)).mono ?_; rintro e w' ⟨rfl, H⟩
   rw [HD.out] at H
   obtain ⟨x, hx⟩ : ∃ x, x = deN ((b.drop 23).take 2) := ⟨_, rfl⟩
   rw [← hx]
   obtain ⟨S5, hs⟩ : ∃ s, s = { S4 with who := x } := ⟨_, rfl⟩
   have hst := (SlotD.set_who S4) x
   rw [← hs] at hst
   have HST := Lib.hid hst
   have hS5n := Lib.hid (show S5.nonce.length = 16 by rw [hs]; exact hS4n.out)
   have hS5m := Lib.hid (show S5.mac.length = 16 by rw [hs]; exact hS4m.out)
   have HS5 := Lib.hid (show S5 = { S4 with who := deN ((b.drop 23).take 2) } by rw [hs, hx])
   have h40 := Lib.hid (SlotD.cells_length hS4n.out hS4m.out)
   clear hx hs hst
   go_wp2_with ((with_reducible refine wpList_op rfl ?_); intro _ hK; refine wp_store_sl 45 _ _ rfl (off := 3) (v := .int .u16 (x : Int)) rfl rfl (by kernel_rfl) rfl 1 H rfl (by rw [List.size_toArray, h40.out]; omega) (fun w' H => ?_); rw [HST.out] at H; replace H : At w0 (rdr p (b.drop 25) :: raw A S5.cells.toArray 60 :: F) w' := H; refine hK _ _ ?_)
   clear HST h40
   refine (ru32_c H (by rw [HL.out]; omega) (by rw [HL.out]; omega)).mono ?_; rintro e w' ⟨rfl, H⟩
   rw [HD.out] at H
   obtain ⟨x, hx⟩ : ∃ x, x = deN ((b.drop 25).take 4) := ⟨_, rfl⟩
   rw [← hx]
   obtain ⟨S6, hs⟩ : ∃ s, s = { S5 with epoch := x } := ⟨_, rfl⟩
   have hst := (SlotD.set_epoch S5) x
   rw [← hs] at hst
   have HST := Lib.hid hst
   have hS6n := Lib.hid (show S6.nonce.length = 16 by rw [hs]; exact hS5n.out)
   have hS6m := Lib.hid (show S6.mac.length = 16 by rw [hs]; exact hS5m.out)
   have HS6 := Lib.hid (show S6 = { S5 with epoch := deN ((b.drop 25).take 4) } by rw [hs, hx])
   have h40 := Lib.hid (SlotD.cells_length hS5n.out hS5m.out)
   clear hx hs hst
   go_wp2_with ((with_reducible refine wpList_op rfl ?_); intro _ hK; refine wp_store_sl 36 _ _ rfl (off := 4) (v := .int .u32 (x : Int)) rfl rfl (by kernel_rfl) rfl 1 H rfl (by rw [List.size_toArray, h40.out]; omega) (fun w' H => ?_); rw [HST.out] at H; replace H : At w0 (rdr p (b.drop 29) :: raw A S6.cells.toArray 60 :: F) w' := H; refine hK _ _ ?_)
   clear HST h40
   have h640 := Lib.hid (SlotD.cells_length hS6n.out hS6m.out)
   refine (fill_c (off := 5) H (by rw [HL.out]; omega) (by omega) (by rw [HL.out]; omega) (by rw [h640.out]; omega)).mono ?_; rintro e w' ⟨rfl, H⟩
   obtain ⟨S7, hS7⟩ : ∃ s, s = { S6 with nonce := (b.drop 29).take 16 } := ⟨_, rfl⟩
   have hp7 := SlotD.put_nonce S6 hS6n.out ((b.drop 29).take 16) h16a.out
   rw [← hS7] at hp7
   have hS7n := Lib.hid (show S7.nonce.length = 16 by rw [hS7]; exact h16a.out)
   have hS7m := Lib.hid (show S7.mac.length = 16 by rw [hS7]; exact hS6m.out)
   have HS7 := Lib.hid hS7
   rw [v8_length, h16a.out] at hp7
   rw [hp7, HD.out] at H
   clear hp7 hS7
   have h740 := Lib.hid (SlotD.cells_length hS7n.out hS7m.out)
   go_wp2_with fail
   refine (fill_c (off := 21) H (by rw [HL.out]; omega) (by omega) (by rw [HL.out]; omega) (by rw [h740.out]; omega)).mono ?_; rintro e w' ⟨rfl, H⟩
   have hp8 := SlotD.put_mac S7 hS7n.out hS7m.out ((b.drop 45).take 16) h16b.out
   rw [v8_length, h16b.out] at hp8
   have h8 : ({ S7 with mac := (b.drop 45).take 16 } : SlotD) = T := by rw [HS7.out, HS6.out, HS5.out, HS4.out, HS3.out, HS2.out, HFIN.out]
   rw [hp8, h8] at H
   clear hp8 h8
   replace H : At w0 (raw A T.cells.toArray 60 :: F) w' := H.tail
   go_wp2_with ((with_reducible refine wpList_op rfl ?_); intro _ hK; first
    | (refine wp_mid 60 _ rfl rfl T.cells (by kernel_rfl) (by rw [hT40.out]; exact size_slot) (at_blk H 0 rfl) (hK _ _ ?_))
    | (refine wp_store_row_sl 60 _ _ rfl (cells := T.cells.toArray) rfl rfl (by rw [List.size_toArray, hT40.out]; exact size_slot) (by simpa using SlotD.cells_one) 0 H rfl rfl (fun w' (H : At w0 (raw A T.cells.toArray 60 :: F) w') => hK _ _ ?_)))
   exact bodyPost_ret (v := .agg T.cells.toArray) (results_row rfl _ rfl (at_blk H 0 rfl) (by kernel_rfl) (by rw [hT40.out]; exact size_slot)) rfl ⟨rfl, H.tail⟩
end Go.Proofs.YtmflbekabkainaaGreatDoor
