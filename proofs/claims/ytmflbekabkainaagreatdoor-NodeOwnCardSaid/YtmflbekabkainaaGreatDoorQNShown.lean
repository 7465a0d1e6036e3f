import Derived.Test.YtmflbekabkainaaGreatDoorQNBuilt
import Derived.Test.YtmflbekabkainaaGreatDoorQNShownS
import Derived.Test.YtmflbekabkainaaGreatDoorQNTake
import Derived.Test.YtmflbekabkainaaGreatDoorQNTick
set_option linter.unusedVariables false
set_option linter.unusedSimpArgs false
namespace Go.Proofs.YtmflbekabkainaaGreatDoor
open Go.RowKit Go.Hg
theorem built_oB (w : World) : (Instr.build 38 [(2, Value.int .u16 7), (5, .int .i8 2), (6, .int .i8 2), (7, .int .u32 5), (11, .int .u16 6)].toArray).run Tryz.prog w = .ok (.agg oB.cells.toArray) w := by kernel_rfl
theorem built_oC (w : World) : (Instr.build 38 [(2, Value.int .u16 7), (5, .int .i8 2), (6, .int .i8 2), (7, .int .u32 1), (8, .int .u8 3), (9, .bool true), (10, .int .u16 1)].toArray).run Tryz.prog w = .ok (.agg oC.cells.toArray) w := by kernel_rfl
theorem drops_at {l : List Nat} {k d : Nat} (h : l[k]? = some d) : (dropsC l)[k]? = some (.int .i64 (d : Int)) := by
 unfold dropsC
 rw [List.getElem?_map, h]
 rfl
theorem out_one {w0 w : World} {F : List SP} {v : Value} {l : List (Nat × Bytes)} {x : Nat × Bytes} (hl : l = [x]) (H : At w0 (outo v l :: F) w) : ∃ (D o q : Nat) (a : Option Addr) (m : Nat), v = .slice (some ⟨D, o, none⟩) 1 q ∧ w.cell? ⟨D, o, none⟩ = some (.int .u16 (x.1 : Int)) ∧ w.cell? ⟨D, o + 1, none⟩ = some (.slice a x.2.length m) := by
 subst hl
 obtain ⟨xs, hf, H⟩ := out_open H
 unfold outFit at hf
 obtain ⟨y, rfl⟩ : ∃ y, xs = [y] := by
  match xs, hf with
  | [], hf => simp at hf
  | [y], _ => exact ⟨y, rfl⟩
  | y :: z :: t, hf => simp at hf
 simp at hf
 obtain ⟨a, q, rfl⟩ := H.lrow_slice
 obtain ⟨D, o, rfl⟩ := lrow_place H 0 rfl (by simp)
 refine ⟨D, o, q, y.2.1, y.2.2.2, rfl, ?_, ?_⟩
 · have h := lrow_cell el_out (i := 0) (j := 0) H 0 rfl rfl rfl
   rw [hf.1] at h
   simpa using h
 · have h := lrow_cell el_out (i := 0) (j := 1) H 0 rfl rfl rfl
   rw [hf.2] at h
   simpa using h
set_option maxRecDepth 20000 in
set_option maxHeartbeats 4000000 in
theorem lshown_c {w0 w : World} {F : List SP} (G : Glob w0) (H : At w0 F w) : Calls Tryz.prog 11 #[] w fun e w' => e = .returned (.bool true) ∧ At w0 F w' := by
 obtain ⟨s1, s2, s3, s4, s5, s6, s7, s8, X, h⟩ := shownN
 have k0 := NodeD.fresh_ok (addr := 3) (by omega) 4 9 2
 obtain ⟨s0, hs0⟩ : ∃ s, s = NodeD.fresh 3 4 9 2 := ⟨_, rfl⟩
 have e1 := h.one
 rw [← hs0] at k0 e1
 obtain ⟨ky, hky⟩ : ∃ k, k = keyN 0 := ⟨_, rfl⟩
 have hkl : ky.length = 32 := by rw [hky]; exact keyN_length 0
 have k1 := NodeD.client_ok k0 7 hkl
 rw [hky, ← e1.1] at k1
 have k2 := NodeD.take_ok k1 (oB.built 1500) 1500
 rw [← h.two.1] at k2
 have k3 := NodeD.take_ok k2 (oB.built 1500) 1501
 rw [← h.three.1] at k3
 have k4 := NodeD.take_ok k3 (oC.built 1500) 1501
 rw [← h.four.1] at k4
 have k5 := NodeD.take_ok k4 (oC.built 1500) 1600
 rw [← h.five.1] at k5
 have k6 := NodeD.take_ok k5 ((oB.built 1500).take 9) 1500
 rw [← h.six.1] at k6
 have k7 := NodeD.tick_ok k6 1504
 rw [← h.seven.1] at k7
 have k8 := NodeD.tick_ok k7 1505
 rw [← h.eight.1] at k8
 obtain ⟨B, hB⟩ : ∃ B, B = oB.built 1500 := ⟨_, rfl⟩
 obtain ⟨C, hC⟩ : ∃ C, C = oC.built 1500 := ⟨_, rfl⟩
 have hBl : B.length = 614 := by rw [hB]; exact OpD.built_length oB_ok (by omega)
 have hCl : C.length = 614 := by rw [hC]; exact OpD.built_length oC_ok (by omega)
 have T0 := Lib.hid (fun (p mb : Nat) (F : List SP) (w : World) (H : At w0 (nodeo p mb s0 :: F) w) =>
  show Calls Tryz.prog 17 #[.pointer (some ⟨p, 0, none⟩), .int .u16 7, .agg (v8 ky).toArray] w fun e w' => e = .returned (.int .i64 0) ∧ At w0 (nodeo p mb s1 :: F) w' from by
   have := nclient_c H k0 (who := 7) (by omega) hkl
   rw [hky, e1.2, ← e1.1, ← hky] at this
   exact this)
 have T1 := Lib.hid (fun (F : List SP) (w : World) (H : At w0 F w) =>
  show Calls Tryz.prog 27 #[.agg oB.cells.toArray, .int .u64 1500] w fun e w' => ∃ v, e = .returned v ∧ At w0 (byt 5 v B :: F) w' from by
   have := lbuilt_c H oB_ok (now := 1500) (by omega)
   rw [← hB] at this
   exact this)
 have T2 := Lib.hid (fun (F : List SP) (w : World) (H : At w0 F w) =>
  show Calls Tryz.prog 27 #[.agg oC.cells.toArray, .int .u64 1500] w fun e w' => ∃ v, e = .returned v ∧ At w0 (byt 5 v C :: F) w' from by
   have := lbuilt_c H oC_ok (now := 1500) (by omega)
   rw [← hC] at this
   exact this)
 have T3 := Lib.hid (fun (p mb : Nat) (F : List SP) (w : World) (H : At w0 (nodeo p mb s1 :: F) w) (v : Value) (hv : SeeB w0 (nodeo p mb s1 :: F) v B) =>
  show Calls Tryz.prog 20 #[.pointer (some ⟨p, 0, none⟩), v, .int .u64 1500] w fun e w' => e = .returned (.int .i64 0) ∧ At w0 (nodeo p mb s2 :: F) w' from by
   have := nTake_c G H k1 (by omega) (by omega) hv (now := 1500) (by omega)
   rw [hB, h.two.2, ← h.two.1] at this
   exact this)
 have T4 := Lib.hid (fun (p mb : Nat) (F : List SP) (w : World) (H : At w0 (nodeo p mb s2 :: F) w) (v : Value) (hv : SeeB w0 (nodeo p mb s2 :: F) v B) =>
  show Calls Tryz.prog 20 #[.pointer (some ⟨p, 0, none⟩), v, .int .u64 1501] w fun e w' => e = .returned (.int .i64 7) ∧ At w0 (nodeo p mb s3 :: F) w' from by
   have := nTake_c G H k2 (by omega) (by omega) hv (now := 1501) (by omega)
   rw [hB, h.three.2, ← h.three.1] at this
   exact this)
 have T5 := Lib.hid (fun (p mb : Nat) (F : List SP) (w : World) (H : At w0 (nodeo p mb s3 :: F) w) (v : Value) (hv : SeeB w0 (nodeo p mb s3 :: F) v C) =>
  show Calls Tryz.prog 20 #[.pointer (some ⟨p, 0, none⟩), v, .int .u64 1501] w fun e w' => e = .returned (.int .i64 0) ∧ At w0 (nodeo p mb s4 :: F) w' from by
   have := nTake_c G H k3 (by omega) (by omega) hv (now := 1501) (by omega)
   rw [hC, h.four.2, ← h.four.1] at this
   exact this)
 have T6 := Lib.hid (fun (p mb : Nat) (F : List SP) (w : World) (H : At w0 (nodeo p mb s4 :: F) w) (v : Value) (hv : SeeB w0 (nodeo p mb s4 :: F) v C) =>
  show Calls Tryz.prog 20 #[.pointer (some ⟨p, 0, none⟩), v, .int .u64 1600] w fun e w' => e = .returned (.int .i64 6) ∧ At w0 (nodeo p mb s5 :: F) w' from by
   have := nTake_c G H k4 (by omega) (by omega) hv (now := 1600) (by omega)
   rw [hC, h.five.2, ← h.five.1] at this
   exact this)
 have T7 := Lib.hid (fun (p mb : Nat) (F : List SP) (w : World) (H : At w0 (nodeo p mb s5 :: F) w) (v : Value) (hv : SeeB w0 (nodeo p mb s5 :: F) v (B.take 9)) =>
  show Calls Tryz.prog 20 #[.pointer (some ⟨p, 0, none⟩), v, .int .u64 1500] w fun e w' => e = .returned (.int .i64 2) ∧ At w0 (nodeo p mb s6 :: F) w' from by
   have := nTake_c G H k5 (by omega) (by omega) hv (now := 1500) (by omega)
   rw [hB, h.six.2, ← h.six.1] at this
   exact this)
 have T8 := Lib.hid (fun (p mb : Nat) (F : List SP) (w : World) (H : At w0 (nodeo p mb s6 :: F) w) =>
  show Calls Tryz.prog 22 #[.pointer (some ⟨p, 0, none⟩), .int .u64 1504] w fun e w' => ∃ v, e = .returned v ∧ At w0 (outo v [] :: nodeo p mb s7 :: F) w' from by
   have := ntick_c H k6 (by omega) (now := 1504) (by omega)
   rw [h.seven.2, ← h.seven.1] at this
   exact this)
 have T9 := Lib.hid (fun (p mb : Nat) (F : List SP) (w : World) (H : At w0 (nodeo p mb s7 :: F) w) =>
  show Calls Tryz.prog 22 #[.pointer (some ⟨p, 0, none⟩), .int .u64 1505] w fun e w' => ∃ v, e = .returned v ∧ At w0 (outo v [X] :: nodeo p mb s8 :: F) w' from by
   have := ntick_c H k7 (by omega) (now := 1505) (by omega)
   rw [h.eight.2, ← h.eight.1] at this
   exact this)
 have hdl := Lib.hid k8.dlen
 have hd7 := Lib.hid (drops_at h.drop)
 have hdl2 := Lib.hid (show (dropsC s8.drops).length = 13 by rw [drops_len, k8.dlen])
 have hx1 := Lib.hid h.next
 have hx2 := Lib.hid h.len
 have hn8 := Lib.hid h.none
 have hb8 := Lib.hid h.box
 have ha8 := Lib.hid h.addr
 have HS0 := Lib.hid hs0.symm
 have HKY := Lib.hid (show keyN 0 = ky from hky.symm)
 have HBL := Lib.hid hBl
 have HCL := Lib.hid hCl
 obtain ⟨oBc, hoB⟩ : ∃ c, c = oB.cells.toArray := ⟨_, rfl⟩
 obtain ⟨oCc, hoC⟩ : ∃ c, c = oC.cells.toArray := ⟨_, rfl⟩
 have HOB := Lib.hid built_oB
 have HOC := Lib.hid built_oC
 rw [← hoB] at HOB T1
 rw [← hoC] at HOC T2
 clear hs0 e1 h hky hkl k0 k1 k2 k3 k4 k5 k6 k7 k8 hB hC hBl hCl hoB hoC
 go_enter Tryz.func11, Tryz.ntmps11
 go_wp2_with fail
 refine (nnew_c H (addr := 3) (by omega) 4 9 2).mono ?_; rintro e w' ⟨p, mb, rfl, H⟩
 rw [HS0.out] at H
 go_wp2_with fail
 refine (nmail_c H).mono ?_; rintro e w' ⟨rfl, rfl⟩
 go_wp2_with fail
 refine (lkey_c H (k := 0) (by omega)).mono ?_; rintro e w' ⟨rfl, H⟩
 rw [HKY.out]
 go_wp2_with fail
 refine (T0.out _ _ _ _ H).mono ?_; rintro e w' ⟨rfl, H⟩
 go_wp2_with ((with_reducible refine wpList_op rfl ?_); intro _ hK; (refine dst_is 24 rfl ?_; refine Hg.wp_build 38 ?pp1 ?ho1 ?hp1 (HOB.out _) ?hk1; (case ho1 => rfl); (case hp1 => (rw [Array.toList_map]; rfl)); refine hK _ _ (Stop.go ?_)))
 refine Stop.un ?_
 go_wp2_with fail
 refine (T1.out _ _ H).mono ?_; rintro e w' ⟨vB, rfl, H⟩
 go_wp2_with ((with_reducible refine wpList_op rfl ?_); intro _ hK; (refine dst_is 26 rfl ?_; refine Hg.wp_build 38 ?pp2 ?ho2 ?hp2 (HOC.out _) ?hk2; (case ho2 => rfl); (case hp2 => (rw [Array.toList_map]; rfl)); refine hK _ _ (Stop.go ?_)))
 refine Stop.un ?_
 go_wp2_with fail
 refine (T2.out _ _ H).mono ?_; rintro e w' ⟨vC, rfl, H⟩
 replace H : At w0 (nodeo p mb s1 :: byt 5 vC C :: byt 5 vB B :: F) w' := H.pull 2 rfl
 go_wp2_with fail
 refine (T3.out _ _ _ _ H _ (see_byt 2 rfl _ H)).mono ?_; rintro e w' ⟨rfl, H⟩
 go_wp2_with fail
 refine (T4.out _ _ _ _ H _ (see_byt 2 rfl _ H)).mono ?_; rintro e w' ⟨rfl, H⟩
 go_wp2_with fail
 refine (T5.out _ _ _ _ H _ (see_byt 1 rfl _ H)).mono ?_; rintro e w' ⟨rfl, H⟩
 go_wp2_with fail
 refine (T6.out _ _ _ _ H _ (see_byt 1 rfl _ H)).mono ?_; rintro e w' ⟨rfl, H⟩
 obtain ⟨v9, hv9, hr9⟩ := (see_byt 2 rfl _ H).upto el_u8 under_bytes elem_bytes (k := 9) (by rw [HBL.out]; omega)
 have HR9 := Lib.hid hr9
 have HV9 := Lib.hid hv9
 clear hr9 hv9
 go_wp2_with ((with_reducible refine wpList_op rfl ?_); intro _ hK; (refine dst_is 42 rfl ?_; refine wp_slice 33 _ _ _ _ rfl (v := v9) (HR9.out _) (hK _ _ (Stop.go ?_))))
 refine Stop.un ?_
 go_wp2_with fail
 refine (T7.out _ _ _ _ H _ HV9.out).mono ?_; rintro e w' ⟨rfl, H⟩
 replace H : At w0 (nodeo p mb s6 :: F) w' := H.maskR [true, false, false]
 go_wp2_with fail
 refine (T8.out _ _ _ _ H).mono ?_; rintro e w' ⟨v1, rfl, H⟩
 obtain ⟨a1, q1, rfl⟩ := out_slice H
 replace H := H.tail
 go_wp2_with fail
 refine (T9.out _ _ _ _ H).mono ?_; rintro e w' ⟨v2, rfl, H⟩
 replace H : At w0 (nodeo p mb s8 :: outo v2 [X] :: F) w' := H.pull 1 rfl
 go_wp2_with fail
 refine (ndrops_c H hdl.out).mono ?_; rintro e w' ⟨rfl, H⟩
 go_wp2_with ((with_reducible refine wpList_op rfl ?_); intro _ hK; first
  | (refine dst_is 12 rfl ?_; refine wp_alloc_sl 47 rfl info_a13 H (fun Z w' (H : At w0 (raw Z (dropsC (List.replicate 13 0)).toArray 47 :: nodeo p mb s8 :: outo v2 [X] :: F) w') _ => hK _ _ ?_))
  | (refine sto_is 12 rfl ?_; refine wp_store_row_sl 47 _ _ rfl (cells := (dropsC s8.drops).toArray) rfl rfl (by rw [List.size_toArray, hdl2.out]; exact size_a13) (by simpa using drops_one s8.drops) 0 H rfl (by rw [List.size_toArray, List.size_toArray, hdl2.out]; rfl) (fun w' (H : At w0 (raw Z (dropsC s8.drops).toArray 47 :: nodeo p mb s8 :: outo v2 [X] :: F) w') => hK _ _ (Stop.go ?_))))
 refine Stop.un ?_
 replace H : At w0 (nodeo p mb s8 :: outo v2 [X] :: raw Z (dropsC s8.drops).toArray 47 :: F) _ := (H.pull 1 rfl).pull 2 rfl |>.pull 1 rfl
 obtain ⟨D, o, q, a9, m9, rfl, hcn, hcb⟩ := out_one rfl (H.pull 1 rfl)
 rw [hx1.out] at hcn
 rw [hx2.out] at hcb
 go_wp2_with fail
 refine (nlen_c H).mono ?_; rintro e w' ⟨rfl, rfl⟩
 rw [hn8.out]
 go_wp2_with fail
 refine (nmail_c H).mono ?_; rintro e w' ⟨rfl, rfl⟩
 go_wp2_with fail
 refine (mlen_c H (k := 1) (by omega)).mono ?_; rintro e w' ⟨rfl, rfl⟩
 rw [hb8.out]
 have hc7 : w'.cell? ⟨Z, 7, none⟩ = some (.int .i64 1) := at_raw H 2 rfl hd7.out
 go_wp2_with fail
 refine (naddr_c H).mono ?_; rintro e w' ⟨rfl, rfl⟩
 rw [ha8.out]
 go_wp2_with fail
 go_ret
 exact ⟨rfl, H.maskR [false, false, false]⟩
end Go.Proofs.YtmflbekabkainaaGreatDoor
