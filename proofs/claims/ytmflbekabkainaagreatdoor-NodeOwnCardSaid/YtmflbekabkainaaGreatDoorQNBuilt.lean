import Derived.Test.YtmflbekabkainaaGreatDoorQNLawA
import Derived.Test.YtmflbekabkainaaGreatDoorQROnC
import Derived.Deep.CutRange
set_option linter.unusedVariables false
set_option linter.unusedSimpArgs false
namespace Go.Hg
open Go.RowKit
def byt (u8 : TypeId) (v : Value) (bs : Bytes) : SP := fun h => ∃ (b cap : Nat) (fr : Nat × Nat) (r : List Value), (v = .slice (some ⟨b, 0, none⟩) bs.length cap ∧ bs.length ≤ cap ∧ (v8 bs ++ r).length ≤ fr.1) ∧ one b (.cells (v8 bs ++ r).toArray u8 fr) h
theorem byt_open {w0 w : World} {F : List SP} {u8 : TypeId} {v : Value} {bs : Bytes} (H : At w0 (byt u8 v bs :: F) w) : ∃ (b cap : Nat) (fr : Nat × Nat) (r : List Value), (v = .slice (some ⟨b, 0, none⟩) bs.length cap ∧ bs.length ≤ cap ∧ (v8 bs ++ r).length ≤ fr.1) ∧ At w0 (one b (.cells (v8 bs ++ r).toArray u8 fr) :: F) w := by
 obtain ⟨hb, h, ⟨h1, h2, ⟨b, cap, fr, r, e, x⟩, q, s⟩, t, u⟩ := H
 exact ⟨b, cap, fr, r, e, hb, h, ⟨h1, h2, x, q, s⟩, t, u⟩
theorem byt_shut {w0 w : World} {F : List SP} {u8 : TypeId} {bs : Bytes} {b cap : Nat} {fr : Nat × Nat} {r : List Value} (h1 : bs.length ≤ cap) (h2 : (v8 bs ++ r).length ≤ fr.1) (H : At w0 (one b (.cells (v8 bs ++ r).toArray u8 fr) :: F) w) : At w0 (byt u8 (.slice (some ⟨b, 0, none⟩) bs.length cap) bs :: F) w :=
 H.imp1 fun _ p => ⟨b, cap, fr, r, ⟨rfl, h1, h2⟩, p⟩
theorem see_byt {w0 : World} {F : List SP} {u8 : TypeId} {v : Value} {bs : Bytes} (q : Nat) (hk : F[q]? = some (byt u8 v bs)) (w : World) (H : At w0 F w) : SeeB w0 F v bs := by
 obtain ⟨b, cap, fr, r, ⟨rfl, h1, h2⟩, H1⟩ := byt_open (H.pull q hk)
 refine ⟨_, cap, b, 0, rfl, h1, fun _ => rfl, ⟨(fun e => by cases e), (fun x e => by cases e; exact .inr rfl)⟩, fun w' H' j u hj => ?_⟩
 obtain ⟨b', cap', fr', r', ⟨hv, _, _⟩, H2⟩ := byt_open (H'.pull q hk)
 cases hv
 rw [raw_cell (H2.heap 0 rfl), List.getElem?_toArray]
 have hl := (List.getElem?_eq_some_iff.1 hj).1
 rw [cl_c8] at hj hl
 rw [Nat.zero_add, List.getElem?_append_left hl]
 exact hj
end Go.Hg
namespace Go.Proofs.YtmflbekabkainaaGreatDoor
open Go.RowKit Go.Hg
theorem places_lrh : placesOf Tryz.prog 122 = some (rhz, [(0, 1), (1, 1), (2, 1), (3, 1), (4, 16), (20, 1), (21, 1), (22, 1)]) := by kernel_rfl
theorem built_non (n : BitVec 8) (w : World) : (Instr.build 57 [(0, Value.int .u8 (iv n)), (1, .int .u8 9)].toArray).run Tryz.prog w = .ok (.agg (v8 ([n, 9] ++ zs 14)).toArray) w := by kernel_rfl
theorem built_non1 (w : World) : (Instr.build 57 [(0, Value.int .u8 8)].toArray).run Tryz.prog w = .ok (.agg (v8 ([8] ++ zs 15)).toArray) w := by kernel_rfl
theorem info_op : (Tryz.prog.info? 38).map (·.size) = some 15 := by kernel_rfl
theorem built_h1 {o : OpD} (ho : o.ok) {now : Nat} (hn : now < 18446744073709551616) {kb : Bytes} (hkb : kb = keyN o.key) {e lo hi : Int} (he : e = (o.epoch now : Int)) (hlo : lo = (min (o.lo now) (o.hi now) : Nat)) (hhi : hi = (max (o.lo now) (o.hi now) : Nat)) (w : World) :
    (Instr.build 122 [(1, Value.int .u16 (o.who : Int)), (2, .string (sB kb)), (3, .int .u32 e), (4, .agg (v8 ([o.nonce, 9] ++ zs 14)).toArray), (5, .int .u64 lo), (6, .int .u64 hi), (7, .int .u32 (o.delay : Int))].toArray).run Tryz.prog w = .ok (.agg (rhC ⟨o.hop1 now, OpD.hop1_ok ho hn⟩).toArray) w := by
 subst he hlo hhi hkb
 have hl : (v8 ([o.nonce, 9] ++ zs 14)).length = 16 := by rw [v8_length, List.length_append, zs_length]; rfl
 refine run_buildL places_lrh [(1, Value.int .u16 (o.who : Int)), (2, .string (sB (keyN o.key))), (3, .int .u32 (o.epoch now : Int)), (4, .agg (v8 ([o.nonce, 9] ++ zs 14)).toArray), (5, .int .u64 ((min (o.lo now) (o.hi now) : Nat) : Int)), (6, .int .u64 ((max (o.lo now) (o.hi now) : Nat) : Int)), (7, .int .u32 (o.delay : Int))] ?_ w
 rfl
theorem built_h2 {o : OpD} (ho : o.ok) {kb : Bytes} (hkb : kb = keyN2 o.key) (w : World) :
    (Instr.build 122 [(0, Value.int .u16 (o.next : Int)), (1, .int .u16 5), (2, .string (sB kb)), (4, .agg (v8 ([8] ++ zs 15)).toArray)].toArray).run Tryz.prog w = .ok (.agg (rhC ⟨o.hop2, OpD.hop2_ok ho⟩).toArray) w := by
 subst hkb
 refine run_buildL places_lrh [(0, Value.int .u16 (o.next : Int)), (1, .int .u16 5), (2, .string (sB (keyN2 o.key))), (4, .agg (v8 ([8] ++ zs 15)).toArray)] ?_ w
 rfl
theorem set_key7 (k : Nat) : (v8 (keyN k)).toArray.setIfInBounds 0 (.int .u8 7) = (v8 (keyN2 k)).toArray := by
 apply Array.ext'
 rw [Array.toList_setIfInBounds]
 rfl
theorem exec_sadd_of {P : Program} {o : Oper} {ρ : Operand → Value} {t yt : TypeId} {x y : Operand} (ho : o.op = .binOp .add t x y yt) {u v z : Bytes} (hx : ρ x = .string (sB u)) (hy : ρ y = .string (sB v)) (hl : u.length + v.length ≤ 1000000000) (e : u ++ v = z) (w : World) : (execOp ρ o).run P w = .ok (.value (.string (sB z))) w := by
 subst e
 exact exec_sadd ho hx hy hl w
theorem byte_at {l : Bytes} {r : List Value} {i : Nat} (hi : i < l.length) : (v8 l ++ r).toArray[i]? = some (.int .u8 (iv (l.getD i 0))) := by
 rw [List.getElem?_toArray, List.getElem?_append_left (by rw [v8_length]; exact hi), v8, List.getElem?_map, List.getElem?_eq_getElem hi, List.getD_eq_getElem?_getD, List.getElem?_eq_getElem hi]
 rfl
theorem byte_set {l : Bytes} {r : List Value} {i : Nat} (hi : i < l.length) (y : BitVec 8) : (v8 l ++ r).toArray.setIfInBounds i (.int .u8 (iv y)) = (v8 (l.set i y) ++ r).toArray := by
 apply Array.ext'
 rw [Array.toList_setIfInBounds]
 show List.set _ _ _ = _
 rw [List.set_append_left _ _ (by rw [v8_length]; exact hi), v8, v8, List.map_set]
theorem opC_length (o : OpD) : o.cells.length = 15 := rfl
set_option maxRecDepth 200000 in
set_option maxHeartbeats 8000000 in
theorem lbuilt_c {w0 w : World} {F : List SP} (H : At w0 F w) {o : OpD} (ho : o.ok) {now : Nat} (hnow : now < 18446744073709551616) :
    Calls Tryz.prog 27 #[.agg o.cells.toArray, .int .u64 (now : Int)] w fun e w' => ∃ v, e = .returned v ∧ At w0 (byt 5 v (o.built now) :: F) w' := by
 obtain ⟨kb, hkb⟩ : ∃ kb, kb = keyN o.key := ⟨_, rfl⟩
 have hkl := Lib.hid (show kb.length = 32 by rw [hkb]; exact keyN_length _)
 obtain ⟨E1, hE1⟩ : ∃ E1 : Int, E1 = -(max o.early (-127)) := ⟨_, rfl⟩
 have HO := Lib.hid ho
 have HNOW := Lib.hid hnow
 obtain ⟨M1, hM1⟩ : ∃ M1 : Int, M1 = max o.early (-127) := ⟨_, rfl⟩
 have e0 : (if o.early < -127 then -127 else o.early) = M1 := by rw [hM1]; split <;> omega
 have e1 : IntKind.i8.wrap (-M1) = E1 := by
  have h8 : ∀ z : Int, -127 ≤ z → z ≤ 127 → IntKind.i8.wrap z = z := fun z h1 h2 => by simp [IntKind.wrap, IntKind.bits, IntKind.signed]; omega
  rw [h8 _ (by have := ho.early; omega) (by have := ho.early; omega), hE1, hM1]
 have hE2 := Lib.hid (show -128 ≤ E1 ∧ E1 ≤ 127 by have := ho.early; omega)
 have HLO := Lib.hid (show nearN now E1 = o.lo now by rw [hE1]; rfl)
 have HK := Lib.hid hkb
 obtain ⟨lo, hlo⟩ : ∃ lo, lo = o.lo now := ⟨_, rfl⟩
 obtain ⟨hi, hhi⟩ : ∃ hi, hi = o.hi now := ⟨_, rfl⟩
 rw [← hlo] at HLO
 have HLO2 := Lib.hid hlo
 have HHI := Lib.hid (show nearN now o.late = hi from hhi.symm)
 have HHI2 := Lib.hid hhi
 clear ho hkb hE1 hM1 hnow hlo hhi
 go_enter Tryz.func27, Tryz.ntmps27
 go_wp2_with ((with_reducible refine wpList_op rfl ?_); intro _ hK; first
  | (refine dst_is 2 rfl ?_; refine wp_box_sl (v := .agg o.cells.toArray) 38 _ rfl rfl H (fun O w' (H : At w0 (raw O o.cells.toArray 38 :: _) w') _ => hK _ _ ?_))
  | (refine dst_is 15 rfl ?_; refine wp_get 5 _ rfl rfl (by kernel_rfl) (at_raw H 0 rfl (j := 3) rfl) (hK _ _ (Stop.go ?_))))
 refine Stop.un ?_
 go_wp2_with fail
 refine (lkey_c H HO.out.key).mono ?_; rintro e w' ⟨rfl, H⟩
 rw [← HK.out]
 go_wp2_with ((with_reducible refine wpList_op rfl ?_); intro _ hK; first
  | (refine dst_is 5 rfl ?_; refine wp_alloc_sl 41 rfl info_lkey H (fun X w' (H : At w0 (raw X (v8 (zs 32)).toArray 41 :: _) w') _ => hK _ _ ?_))
  | (refine sto_is 5 rfl ?_; refine wp_sta 41 _ _ rfl (cs := kb) rfl rfl (by rw [hkl.out]; exact size_key) 0 H rfl (by rw [hkl.out, zs_length]) (fun w' (H : At w0 (raw X (v8 kb).toArray 41 :: _) w') => hK _ _ (Stop.go ?_))))
 refine Stop.un ?_
 go_wp2_with ((with_reducible refine wpList_op rfl ?_); intro _ hK; (refine dst_is 19 rfl ?_; refine wp_get 35 _ rfl rfl (by kernel_rfl) (at_raw H 1 rfl (j := 5) rfl) (hK _ _ (Stop.go ?_))))
 refine Stop.un ?_
 go_wp2_with fail
 refine (lnear_c HNOW.out hE2.out.1 hE2.out.2 _).mono ?_; rintro e w' ⟨rfl, rfl⟩
 rw [HLO.out]
 go_wp2_with ((with_reducible refine wpList_op rfl ?_); intro _ hK; (refine dst_is 25 rfl ?_; refine wp_get 35 _ rfl rfl (by kernel_rfl) (at_raw H 1 rfl (j := 6) rfl) (hK _ _ (Stop.go ?_))))
 refine Stop.un ?_
 go_wp2_with fail
 refine (lnear_c HNOW.out HO.out.late.1 HO.out.late.2 _).mono ?_; rintro e w' ⟨rfl, rfl⟩
 rw [HHI.out]
 have hq := Lib.hid (show IntKind.u32.wrap (IntKind.u32.wrap (IntKind.u64.wrap ((now : Int) / 1000)) - IntKind.u32.wrap (o.old : Int)) = (o.epoch now : Int) by
  have h1 := HO.out.old
  have h2 := HNOW.out
  rw [IntKind.wrap_u32, IntKind.wrap_u32, IntKind.wrap_u32, IntKind.wrap_u64]
  unfold OpD.epoch
  omega)
 have hmin := Lib.hid (show (if hi < lo then (hi : Int) else (lo : Int)) = (min (o.lo now) (o.hi now) : Nat) by rw [← HLO2.out, ← HHI2.out]; split <;> omega)
 have hmax := Lib.hid (show (if lo < hi then (hi : Int) else (lo : Int)) = (max (o.lo now) (o.hi now) : Nat) by rw [← HLO2.out, ← HHI2.out]; split <;> omega)
 obtain ⟨h1, hh1⟩ : ∃ h : HopO, h = ⟨o.hop1 now, OpD.hop1_ok HO.out HNOW.out⟩ := ⟨_, rfl⟩
 have HB1 := Lib.hid (built_h1 HO.out HNOW.out HK.out hq.out hmin.out hmax.out)
 rw [← hh1] at HB1
 have HH1 := Lib.hid hh1
 have hl1 := Lib.hid (rhC_length h1)
 clear hh1
 go_wp2_with fail
 refine wpS_begin [] (raw X (v8 kb).toArray 41 :: raw O o.cells.toArray 38 :: F) (.fr 0 (.tk 1 (.fr 2 (.tk 3 (.fr 4 (.fr 5 (.fr 6 (.fr 7 (.tk 8 (.fr 9 (.fr 10 (.fr 11 (.tk 12 (.fr 13 (.fr 14 (.fr 15 (.fr 16 (.fr 17 (.fr 18 (.fr 19 (.fr 20 (.tk 21 (.fr 22 (.nx 23 (.nx 24 .nil))))))))))))))))))))))))) rfl (by kernel_rfl) (by kernel_rfl) H ?_
 clear H
 intro ops hOps
 refine fs hOps ?_
 refine ts hOps (fun w hw => at_raw hw 1 rfl (j := 2) rfl) ?_
 refine fs hOps ?_
 refine wpS_take hOps rfl (fun _ _ _ h => h) pk (GY.of_yields (yl rfl (fun w hw => exec_str_of (bs := kb) rfl under_bytesT under_u8T under_strT rfl hw (see_blk 0 rfl hkl.out.symm)))) ?_
 simp only [nrm]
 iterate 4 refine fs hOps ?_
 refine ts hOps (fun w hw => at_raw hw 1 rfl (j := 4) rfl) ?_
 iterate 3 refine fs hOps ?_
 refine ts hOps (fun w hw => at_raw hw 1 rfl (j := 8) rfl) ?_
 refine wpS_free hOps rfl (fun _ _ _ h => h) (yl_build rfl 57 _ rfl (by rw [Array.toList_map]; rfl) (built_non o.nonce)) ?_
 simp only [nrm]
 iterate 7 refine fs hOps ?_
 refine ts hOps (fun w hw => at_raw hw 1 rfl (j := 7) rfl) ?_
 refine wpS_free hOps rfl (fun _ _ _ h => h) (yl_build rfl 122 _ rfl (by rw [Array.toList_map]; rfl) HB1.out) ?_
 simp only [nrm]
 refine wpS_next hOps rfl rfl ?_
 intro w H K hK
 refine wp_alloc_sl 122 rfl info_rh H (fun D w' H _ => ?_)
 refine hK _ _ _ (.inr (.inl ((Imp.refl _).more _))) H ?_
 clear hK K H
 try simp only [nrm]
 refine wpS_next hOps rfl rfl ?_
 intro w H K hK
 refine wp_store_row_sl 122 _ _ rfl (b := D) (cells := (rhC h1).toArray) rfl rfl (by rw [List.size_toArray, hl1.out]; exact size_rh) (by simpa using rhC_one h1) 0 H rfl (by rw [List.size_toArray, List.size_toArray, hl1.out]; rfl) (fun w' H => ?_)
 replace H : At w0 (raw D (rhC h1).toArray 122 :: raw X (v8 kb).toArray 41 :: raw O o.cells.toArray 38 :: F) w' := H
 refine hK _ _ _ (.inr (.inr pk)) H ?_
 clear hK K H
 try simp only [nrm]
 refine wpS_end (fun w H => ?_)
 clear hOps ops
 obtain ⟨mn, hmn⟩ : ∃ mn : Int, mn = if hi < lo then (hi : Int) else (lo : Int) := ⟨_, rfl⟩
 obtain ⟨mx, hmx⟩ : ∃ mx : Int, mx = if lo < hi then (hi : Int) else (lo : Int) := ⟨_, rfl⟩
 rw [← hmn, ← hmx]
 clear hmn hmx
 go_wp2_with ((with_reducible refine wpList_op rfl ?_); intro _ hK; first
  | (refine dst_is 50 rfl ?_; refine wp_mid 122 _ rfl rfl (rhC h1) (by kernel_rfl) (by rw [hl1.out]; exact size_rh) (at_blk H 0 rfl) (hK _ _ ?_))
  | (refine dst_is 51 rfl ?_; refine wp_lbuild el_rhop (y := h1) 123 under_rhops _ rfl rfl rfl (by omega) (by omega) H (fun C w' H => hK _ _ (Stop.go ?_))))
 refine Stop.un ?_
 have e51 : cl rhC [h1] = rhC h1 := by simp [cl]
 replace H := lrow_of_raw el_rhop (xs := [h1]) (by simp) (by rw [e51]; exact H)
 replace H : At w0 (lrow 122 23 rhC (.slice (some ⟨C, 0, none⟩) 1 1) [h1] :: raw D (rhC h1).toArray 122 :: raw X (v8 kb).toArray 41 :: raw O o.cells.toArray 38 :: F) _ := H
 obtain ⟨lb, hlb⟩ : ∃ lb, lb = o.last := ⟨_, rfl⟩
 have HLB := Lib.hid hlb
 have hc9 := Lib.hid (show o.cells[9]? = some (.bool lb) by rw [hlb]; rfl)
 have hc11 := Lib.hid (show o.cells[11]? = some (.int .u16 (o.next : Int)) from rfl)
 obtain ⟨hs, hhs⟩ : ∃ hs, hs = o.hops HO.out now HNOW.out := ⟨_, rfl⟩
 have HHS := Lib.hid (show hs = if lb = true then [h1] else [h1, ⟨o.hop2, OpD.hop2_ok HO.out⟩] by
  rw [hhs, OpD.hops, HH1.out, hlb])
 have HHS2 := Lib.hid hhs
 clear hlb hhs e51
 go_upto_region 6 with fail
 go_wp2_with ((with_reducible refine wpList_op rfl ?_); intro _ hK; (refine dst_is 53 rfl ?_; refine wp_get 4 _ rfl rfl (by kernel_rfl) (at_raw H 3 rfl (j := 9) hc9.out) (hK _ _ (Stop.go ?_))))
 refine Stop.un ?_
 go_upto_if 54 with fail
 go_cut [9] from 52 to 64 (fun l wr => ∃ (a : Option Addr) (q : Nat), l = .slice a hs.length q ∧ At w0 (lrow 122 23 rhC (.slice a hs.length q) hs :: raw O o.cells.toArray 38 :: F) wr)
 case first =>
  cases lb with
  | true =>
   have hh : hs = [h1] := by rw [HHS.out, if_pos rfl]
   have HH := Lib.hid hh
   clear hh
   go_wp2_with fail
   go_meet
   case rel => exact ⟨some ⟨C, 0, none⟩, 1, by rw [HH.out]; rfl, by rw [HH.out]; exact H.maskR [true, false, false, true]⟩
  | false =>
   obtain ⟨h2, hh2⟩ : ∃ h : HopO, h = ⟨o.hop2, OpD.hop2_ok HO.out⟩ := ⟨_, rfl⟩
   have hh : hs = [h1] ++ [h2] := by rw [HHS.out, if_neg (by simp), hh2]; rfl
   have HH := Lib.hid hh
   obtain ⟨k2, hk2⟩ : ∃ k2, k2 = keyN2 o.key := ⟨_, rfl⟩
   have hk2l := Lib.hid (show k2.length = 32 by rw [hk2]; exact keyN2_length _)
   have HB2 := Lib.hid (built_h2 HO.out hk2)
   rw [← hh2] at HB2
   have HS7 := Lib.hid (show (v8 kb).toArray.setIfInBounds 0 (.int .u8 7) = (v8 k2).toArray by rw [HK.out, hk2]; exact set_key7 _)
   clear hh hk2 hh2
   go_wp2_with ((with_reducible refine wpList_op rfl ?_); intro _ hK; (refine sto_is 55 rfl ?_; refine wp_store_sl 5 _ _ rfl (off := 0) (v := .int .u8 7) rfl rfl (by kernel_rfl) rfl 2 H rfl (by rw [List.size_toArray, v8_length, hkl.out]; omega) (fun w' H => ?_); rw [HS7.out] at H; replace H : At w0 (lrow 122 23 rhC (.slice (some ⟨C, 0, none⟩) 1 1) [h1] :: raw D (rhC h1).toArray 122 :: raw X (v8 k2).toArray 41 :: raw O o.cells.toArray 38 :: F) w' := H; refine hK _ _ (Stop.go ?_)))
   refine Stop.un ?_
   replace H : At w0 (lrow 122 23 rhC (.slice (some ⟨C, 0, none⟩) 1 1) [h1] :: raw X (v8 k2).toArray 41 :: raw O o.cells.toArray 38 :: F) _ := H.maskR [true, false, true, true]
   go_wp2_with fail
   refine wpS_begin [] ([raw X (v8 k2).toArray 41, raw O o.cells.toArray 38]) (.fr 0 (.fr 1 (.tk 2 (.fr 3 (.tk 4 (.fr 5 (.fr 6 (.nx 7 (.nx 8 (.nx 9 .nil)))))))))) rfl (by kernel_rfl) (by kernel_rfl) H ?_
   clear H
   intro ops hOps
   iterate 2 refine fs hOps ?_
   refine ts hOps (fun w hw => at_raw hw 1 rfl hc11.out) ?_
   refine fs hOps ?_
   refine wpS_take hOps rfl (fun _ _ _ h => h) pk (GY.of_yields (yl rfl (fun w hw => exec_str_of (bs := k2) rfl under_bytesT under_u8T under_strT rfl hw (see_blk 0 rfl hk2l.out.symm)))) ?_
   simp only [nrm]
   refine wpS_free hOps rfl (fun _ _ _ h => h) (yl_build rfl 57 _ rfl (by rw [Array.toList_map]; rfl) built_non1) ?_
   simp only [nrm]
   refine wpS_free hOps rfl (fun _ _ _ h => h) (yl_build rfl 122 _ rfl (by rw [Array.toList_map]; rfl) HB2.out) ?_
   simp only [nrm]
   refine wpS_next hOps rfl rfl ?_
   intro w H K hK
   refine wp_lbuild el_rhop (y := h2) 123 under_rhops _ rfl rfl rfl (by omega) (by omega) H (fun C2 w' H => ?_)
   refine hK _ _ _ (.inr (.inl pk)) H ?_
   clear hK K H
   try simp only [nrm]
   refine wpS_next hOps rfl rfl ?_
   intro w H K hK
   refine wp_lapp_one el_rhop (xs := [h1]) (y := h2) 123 under_rhops _ _ rfl rfl (H.pull 1 rfl) rfl 0 rfl (by simp) (by simp [maxLen]) (by simp) (fun b2 q2 w' H => ?_)
   refine hK _ _ _ (.inr (.inr pk)) H ?_
   clear hK K H
   try simp only [nrm]
   refine wpS_next hOps rfl rfl ?_
   intro w H K hK
   refine wp_run rfl ?_
   refine hK _ _ _ (.inr (.inl (Imp.refl _))) H ?_
   clear hK K H
   try simp only [nrm]
   refine wpS_end (fun w H => ?_)
   clear hOps ops
   go_wp2_with fail
   go_meet
   case rel => exact ⟨b2, q2, by rw [HH.out], by rw [HH.out]; exact H.maskR [true, false, false, true]⟩
 case rest =>
  obtain ⟨a9, q9, rfl, H⟩ := hcut
  obtain ⟨p, hp⟩ : ∃ p, p = o.pkt now := ⟨_, rfl⟩
  have HBL := Lib.hid (show buildOf (hs.map (·.1)) o.box (zs 256) = some p by
   rw [HHS2.out, OpD.hops_map, hp]
   exact (OpD.pkt_some HO.out HNOW.out).1)
  have PO := Lib.hid (show p.ok by rw [hp]; exact OpD.pkt_ok HO.out HNOW.out)
  have HP := Lib.hid hp
  have hc10 := Lib.hid (show o.cells[10]? = some (.int .u16 (o.box : Int)) from rfl)
  have hz := Lib.hid (zs_length 256)
  have rpl := Lib.hid (show (rpC p).toArray.size = 6 from rfl)
  have rpo := Lib.hid (show ∀ u ∈ (rpC p).toArray.toList, u.oneCell' = true from fun u hu => by
   simp [rpC] at hu
   rcases hu with rfl | rfl | rfl | rfl | rfl | rfl <;> rfl)
  obtain ⟨m9, hm9⟩ : ∃ m9, m9 = hs.length := ⟨_, rfl⟩
  have HM9 := Lib.hid hm9
  rw [← hm9] at H ⊢
  clear hp hm9
  go_upto_region 9 with fail
  go_cut [10, 11] from 52 to 73 (fun x e wr => ∃ PK, x = .pointer (some ⟨PK, 0, none⟩) ∧ At w0 (raw PK (rpC p).toArray 62 :: raw O o.cells.toArray 38 :: F) wr)
  case first =>
   refine wpS_begin [] ([lrow 122 23 rhC (.slice a9 m9 q9) hs, raw O o.cells.toArray 38]) (.fr 0 (.fr 1 (.tk 2 (.two 3 9 (.two 4 9 (.two 5 9 (.fr 6 (.fr 7 (.fr 8 (.nx 9 (.nx 10 (.nx 11 .nil)))))) (.nx 5 (.fr 6 (.fr 7 (.fr 8 (.nx 10 (.nx 11 .nil))))))) (.nx 4 (.nx 5 (.fr 6 (.fr 7 (.fr 8 (.nx 10 (.nx 11 .nil)))))))) (.nx 3 (.nx 4 (.nx 5 (.fr 6 (.fr 7 (.fr 8 (.nx 10 (.nx 11 .nil)))))))))))) rfl (by kernel_rfl) (by kernel_rfl) H ?_
   clear H
   intro ops hOps
   iterate 2 refine fs hOps ?_
   refine ts hOps (fun w hw => at_raw hw 1 rfl hc10.out) ?_
   refine wpS_two hOps rfl rfl rfl rfl ?_ ?_
   all_goals intro w H K hK
   · refine wp_lmake el_u8 33 _ _ rfl under_bytes8 info_u8w (x := (0 : BitVec 8)) rfl rfl (n := 256) (cap := 256) rfl rfl (Nat.le_refl _) (by simp [maxLen]) (by omega) H (fun Z w' H => ?_)
     refine hK _ _ _ (.inr (.inl pk)) H ?_
     clear hK K H
     try simp only [nrm]
     refine wpS_two hOps rfl rfl rfl rfl ?_ ?_
     all_goals intro w H K hK
     · refine wp_run (exec_str_of (bs := zs 256) rfl under_bytesT under_u8T under_strT rfl H (by first | exact see_own el_u8 H 0 hz.out.symm rfl | exact see_own el_u8 H 1 hz.out.symm rfl)) ?_
       refine hK _ _ _ (.inr (.inl pk)) H ?_
       clear hK K H
       try simp only [nrm]
       refine wpS_two hOps rfl rfl rfl rfl ?_ ?_
       all_goals intro w H K hK
       · refine wp_call _ _ _ rfl Tryz.func49 rfl (by kernel_rfl) ?_
         simp only [List.map_toArray, List.map_cons, List.map_nil, nrm]
         refine (RBuild_c (hops := hs) H (by first | exact see_own el_rhop H 1 HM9.out rfl | exact see_own el_rhop H 2 HM9.out rfl | exact see_own el_rhop H 0 HM9.out rfl) hz.out HO.out.box).mono ?_; rintro e' w' ⟨rfl, H⟩
         rw [HBL.out]
         refine hK _ _ _ (.inr (.inl pk)) H ?_
         clear hK K H
         try simp only [nrm]
         iterate 3 refine fs hOps ?_
         refine wpS_next hOps rfl rfl ?_
         intro w H K hK
         refine wp_alloc_sl 62 rfl rp_info H (fun PK w' H _ => ?_)
         refine hK _ _ _ (.inr (.inl ((Imp.refl _).more _))) H ?_
         clear hK K H
         try simp only [nrm]
         refine wpS_next hOps rfl rfl ?_
         intro w H K hK
         first
          | (refine wp_store_row_sl 62 _ _ rfl (b := PK) (cells := (rpC p).toArray) rfl rfl (by rw [rpl.out]; exact rp_size) rpo.out 0 H rfl (by rw [rpl.out]; rfl) (fun w' H => ?_))
          | (refine wp_store_row_sl 62 _ _ rfl (b := PK) (cells := (rpC p).toArray) rfl rfl (by rw [rpl.out]; exact rp_size) rpo.out 1 H rfl (by rw [rpl.out]; rfl) (fun w' H => ?_))
         refine hK _ _ _ (.inr (.inr pk)) H ?_
         clear hK K H
         try simp only [nrm]
         refine wpS_next hOps rfl rfl ?_
         intro w H K hK
         refine wp_run rfl ?_
         refine hK _ _ _ (.inr (.inl (Imp.refl _))) H ?_
         clear hK K H
         try simp only [nrm]
         refine wpS_end (fun w H => ?_)
         clear hOps ops
         go_wp2_with fail
         go_meet
         case rel => exact ⟨PK, rfl, by first | exact H.maskR [true, false, false, true] | exact H.maskR [false, true, false, true]⟩
       · refine wp_alloc_sl 62 rfl rp_info H (fun PK w' H _ => ?_)
         refine hK _ _ _ (.inr (.inl ((Imp.refl _).more _))) H ?_
         clear hK K H
         try simp only [nrm]
         refine wpS_next hOps rfl rfl ?_
         intro w H K hK
         refine wp_call _ _ _ rfl Tryz.func49 rfl (by kernel_rfl) ?_
         simp only [List.map_toArray, List.map_cons, List.map_nil, nrm]
         refine (RBuild_c (hops := hs) H (by first | exact see_own el_rhop H 1 HM9.out rfl | exact see_own el_rhop H 2 HM9.out rfl | exact see_own el_rhop H 0 HM9.out rfl) hz.out HO.out.box).mono ?_; rintro e' w' ⟨rfl, H⟩
         rw [HBL.out]
         refine hK _ _ _ (.inr (.inl pk)) H ?_
         clear hK K H
         try simp only [nrm]
         iterate 3 refine fs hOps ?_
         refine wpS_next hOps rfl rfl ?_
         intro w H K hK
         first
          | (refine wp_store_row_sl 62 _ _ rfl (b := PK) (cells := (rpC p).toArray) rfl rfl (by rw [rpl.out]; exact rp_size) rpo.out 0 H rfl (by rw [rpl.out]; rfl) (fun w' H => ?_))
          | (refine wp_store_row_sl 62 _ _ rfl (b := PK) (cells := (rpC p).toArray) rfl rfl (by rw [rpl.out]; exact rp_size) rpo.out 1 H rfl (by rw [rpl.out]; rfl) (fun w' H => ?_))
         refine hK _ _ _ (.inr (.inr pk)) H ?_
         clear hK K H
         try simp only [nrm]
         refine wpS_next hOps rfl rfl ?_
         intro w H K hK
         refine wp_run rfl ?_
         refine hK _ _ _ (.inr (.inl (Imp.refl _))) H ?_
         clear hK K H
         try simp only [nrm]
         refine wpS_end (fun w H => ?_)
         clear hOps ops
         go_wp2_with fail
         go_meet
         case rel => exact ⟨PK, rfl, by first | exact H.maskR [true, false, false, true] | exact H.maskR [false, true, false, true]⟩
     · refine wp_alloc_sl 62 rfl rp_info H (fun PK w' H _ => ?_)
       refine hK _ _ _ (.inr (.inl ((Imp.refl _).more _))) H ?_
       clear hK K H
       try simp only [nrm]
       refine wpS_next hOps rfl rfl ?_
       intro w H K hK
       refine wp_run (exec_str_of (bs := zs 256) rfl under_bytesT under_u8T under_strT rfl H (by first | exact see_own el_u8 H 0 hz.out.symm rfl | exact see_own el_u8 H 1 hz.out.symm rfl)) ?_
       refine hK _ _ _ (.inr (.inl pk)) H ?_
       clear hK K H
       try simp only [nrm]
       refine wpS_next hOps rfl rfl ?_
       intro w H K hK
       refine wp_call _ _ _ rfl Tryz.func49 rfl (by kernel_rfl) ?_
       simp only [List.map_toArray, List.map_cons, List.map_nil, nrm]
       refine (RBuild_c (hops := hs) H (by first | exact see_own el_rhop H 1 HM9.out rfl | exact see_own el_rhop H 2 HM9.out rfl | exact see_own el_rhop H 0 HM9.out rfl) hz.out HO.out.box).mono ?_; rintro e' w' ⟨rfl, H⟩
       rw [HBL.out]
       refine hK _ _ _ (.inr (.inl pk)) H ?_
       clear hK K H
       try simp only [nrm]
       iterate 3 refine fs hOps ?_
       refine wpS_next hOps rfl rfl ?_
       intro w H K hK
       first
        | (refine wp_store_row_sl 62 _ _ rfl (b := PK) (cells := (rpC p).toArray) rfl rfl (by rw [rpl.out]; exact rp_size) rpo.out 0 H rfl (by rw [rpl.out]; rfl) (fun w' H => ?_))
        | (refine wp_store_row_sl 62 _ _ rfl (b := PK) (cells := (rpC p).toArray) rfl rfl (by rw [rpl.out]; exact rp_size) rpo.out 1 H rfl (by rw [rpl.out]; rfl) (fun w' H => ?_))
       refine hK _ _ _ (.inr (.inr pk)) H ?_
       clear hK K H
       try simp only [nrm]
       refine wpS_next hOps rfl rfl ?_
       intro w H K hK
       refine wp_run rfl ?_
       refine hK _ _ _ (.inr (.inl (Imp.refl _))) H ?_
       clear hK K H
       try simp only [nrm]
       refine wpS_end (fun w H => ?_)
       clear hOps ops
       go_wp2_with fail
       go_meet
       case rel => exact ⟨PK, rfl, by first | exact H.maskR [true, false, false, true] | exact H.maskR [false, true, false, true]⟩
   · refine wp_alloc_sl 62 rfl rp_info H (fun PK w' H _ => ?_)
     refine hK _ _ _ (.inr (.inl ((Imp.refl _).more _))) H ?_
     clear hK K H
     try simp only [nrm]
     refine wpS_next hOps rfl rfl ?_
     intro w H K hK
     refine wp_lmake el_u8 33 _ _ rfl under_bytes8 info_u8w (x := (0 : BitVec 8)) rfl rfl (n := 256) (cap := 256) rfl rfl (Nat.le_refl _) (by simp [maxLen]) (by omega) H (fun Z w' H => ?_)
     refine hK _ _ _ (.inr (.inl pk)) H ?_
     clear hK K H
     try simp only [nrm]
     refine wpS_next hOps rfl rfl ?_
     intro w H K hK
     refine wp_run (exec_str_of (bs := zs 256) rfl under_bytesT under_u8T under_strT rfl H (by first | exact see_own el_u8 H 0 hz.out.symm rfl | exact see_own el_u8 H 1 hz.out.symm rfl)) ?_
     refine hK _ _ _ (.inr (.inl pk)) H ?_
     clear hK K H
     try simp only [nrm]
     refine wpS_next hOps rfl rfl ?_
     intro w H K hK
     refine wp_call _ _ _ rfl Tryz.func49 rfl (by kernel_rfl) ?_
     simp only [List.map_toArray, List.map_cons, List.map_nil, nrm]
     refine (RBuild_c (hops := hs) H (by first | exact see_own el_rhop H 1 HM9.out rfl | exact see_own el_rhop H 2 HM9.out rfl | exact see_own el_rhop H 0 HM9.out rfl) hz.out HO.out.box).mono ?_; rintro e' w' ⟨rfl, H⟩
     rw [HBL.out]
     refine hK _ _ _ (.inr (.inl pk)) H ?_
     clear hK K H
     try simp only [nrm]
     iterate 3 refine fs hOps ?_
     refine wpS_next hOps rfl rfl ?_
     intro w H K hK
     first
      | (refine wp_store_row_sl 62 _ _ rfl (b := PK) (cells := (rpC p).toArray) rfl rfl (by rw [rpl.out]; exact rp_size) rpo.out 0 H rfl (by rw [rpl.out]; rfl) (fun w' H => ?_))
      | (refine wp_store_row_sl 62 _ _ rfl (b := PK) (cells := (rpC p).toArray) rfl rfl (by rw [rpl.out]; exact rp_size) rpo.out 1 H rfl (by rw [rpl.out]; rfl) (fun w' H => ?_))
     refine hK _ _ _ (.inr (.inr pk)) H ?_
     clear hK K H
     try simp only [nrm]
     refine wpS_next hOps rfl rfl ?_
     intro w H K hK
     refine wp_run rfl ?_
     refine hK _ _ _ (.inr (.inl (Imp.refl _))) H ?_
     clear hK K H
     try simp only [nrm]
     refine wpS_end (fun w H => ?_)
     clear hOps ops
     go_wp2_with fail
     go_meet
     case rel => exact ⟨PK, rfl, by first | exact H.maskR [true, false, false, true] | exact H.maskR [false, true, false, true]⟩
  case rest =>
   obtain ⟨PK, rfl, H⟩ := hcut
   obtain ⟨bs, hbs⟩ : ∃ bs, bs = packOf p := ⟨_, rfl⟩
   have hbl := Lib.hid (show bs.length = 614 by rw [hbs]; exact packOf_length PO.out)
   have HBS := Lib.hid (show (beN 2 p.who ++ (beN 4 p.epoch ++ (p.nonce ++ (p.mac ++ p.head)))) ++ p.body = bs by rw [hbs, packOf]; simp only [List.append_assoc])
   obtain ⟨xn, hxn⟩ : ∃ xn : Nat, xn = (o.at_ % 65536).toNat := ⟨_, rfl⟩
   have hband : bits BinOp.and IntKind.i64 o.at_ 65535 = (xn : Int) := by
    have h := bits_and_low o.at_ 16 (by omega)
    rw [show ((2 : Int) ^ 16 - 1) = 65535 by decide, show ((2 : Int) ^ 16) = 65536 by decide] at h
    rw [h, hxn]
    omega
   obtain ⟨pl, hpl⟩ : ∃ pl, pl = xn % 614 := ⟨_, rfl⟩
   have HPL := Lib.hid (show pl = o.place by rw [hpl, hxn]; rfl)
   have hrem : (xn : Int) % 614 = (pl : Int) := by omega
   have hx6 : (xn : Int) < 65536 := by omega
   have hplt := Lib.hid (show pl < 614 by omega)
   have hc12 := Lib.hid (show o.cells[12]? = some (.int .i64 o.at_) from rfl)
   have hc13 := Lib.hid (show o.cells[13]? = some (.int .u8 (iv o.turn)) from rfl)
   clear hbs hxn hpl
   go_wp2_with ((with_reducible refine wpList_op rfl ?_); intro _ hK; first
    | (refine dst_is 75 rfl ?_; refine wp_get 9 _ rfl rfl (by kernel_rfl) (at_raw H 0 rfl (j := 0) rfl) (hK _ _ ?_))
    | (refine dst_is 77 rfl ?_; refine wp_get 9 _ rfl rfl (by kernel_rfl) (at_raw H 0 rfl (j := 1) rfl) (hK _ _ ?_))
    | (refine dst_is 78 rfl ?_; refine wp_sadd _ _ _ _ rfl rfl rfl (by simp [beN_length]) (hK _ _ (Stop.go ?_))))
   refine Stop.un ?_
   go_wp2_with ((with_reducible refine wpList_op rfl ?_); intro _ hK; first
    | (refine dst_is 80 rfl ?_; refine wp_get 9 _ rfl rfl (by kernel_rfl) (at_raw H 0 rfl (j := 2) rfl) (hK _ _ ?_))
    | (refine dst_is 81 rfl ?_; refine wp_sadd _ _ _ _ rfl rfl rfl (by simp [beN_length, PO.out.nonce, PO.out.mac, PO.out.head, PO.out.body]) (hK _ _ (Stop.go ?_))))
   refine Stop.un ?_
   go_wp2_with ((with_reducible refine wpList_op rfl ?_); intro _ hK; first
    | (refine dst_is 83 rfl ?_; refine wp_get 9 _ rfl rfl (by kernel_rfl) (at_raw H 0 rfl (j := 3) rfl) (hK _ _ ?_))
    | (refine dst_is 84 rfl ?_; refine wp_sadd _ _ _ _ rfl rfl rfl (by simp [beN_length, PO.out.nonce, PO.out.mac, PO.out.head, PO.out.body]) (hK _ _ (Stop.go ?_))))
   refine Stop.un ?_
   go_wp2_with ((with_reducible refine wpList_op rfl ?_); intro _ hK; first
    | (refine dst_is 86 rfl ?_; refine wp_get 9 _ rfl rfl (by kernel_rfl) (at_raw H 0 rfl (j := 4) rfl) (hK _ _ ?_))
    | (refine dst_is 87 rfl ?_; refine wp_sadd _ _ _ _ rfl rfl rfl (by simp [beN_length, PO.out.nonce, PO.out.mac, PO.out.head, PO.out.body]) (hK _ _ (Stop.go ?_))))
   refine Stop.un ?_
   go_wp2_with ((with_reducible refine wpList_op rfl ?_); intro _ hK; first
    | (refine dst_is 89 rfl ?_; refine wp_get 9 _ rfl rfl (by kernel_rfl) (at_raw H 0 rfl (j := 5) rfl) (hK _ _ ?_))
    | (refine dst_is 90 rfl ?_; refine wp_run (exec_sadd_of rfl rfl rfl (by simp [beN_length, PO.out.nonce, PO.out.mac, PO.out.head, PO.out.body]) HBS.out _) (hK _ _ (Stop.go ?_))))
   refine Stop.un ?_
   go_wp2_with ((with_reducible refine wpList_op rfl ?_); intro _ hK; first
    | (refine dst_is 91 rfl ?_; refine wp_tobytes_fr _ _ _ rfl under_strT under_bytesT under_u8T (l := bs) rfl H (fun B cap fr r w' hcap hfr H => ?_); rw [hbl.out] at hcap ⊢; refine hK _ _ (Stop.go ?_)))
   refine Stop.un ?_
   have HCF := Lib.hid (And.intro hcap hfr)
   clear hcap hfr
   go_wp2_with ((with_reducible refine wpList_op rfl ?_); intro _ hK; first
    | (refine dst_is 93 rfl ?_; refine wp_get 3 _ rfl rfl (by kernel_rfl) (at_raw H 2 rfl hc12.out) (hK _ _ (Stop.go ?_))))
   refine Stop.un ?_
   go_wp2_with fail
   rw [hrem]
   clear hrem hx6 hband
   have hpb := Lib.hid (show pl < bs.length by rw [hbl.out]; exact hplt.out)
   have hp614 : (pl : Int) < 614 := by have := hplt.out; omega
   have hct := Lib.hid (byte_at (r := r) hpb.out)
   obtain ⟨x0, hx0⟩ : ∃ x0, x0 = bs.getD pl 0 := ⟨_, rfl⟩
   rw [← hx0] at hct
   have HX0 := Lib.hid hx0
   clear hx0
   refine wpM_begin [10] ((At w0 (one B (.cells (v8 bs ++ r).toArray 5 fr) :: raw PK (rpC p).toArray 62 :: raw O o.cells.toArray 38 :: F))) [(0, 2), (1, 2), (2, 2), (3, 2), (4, 2), (5, 1), (6, 2), (7, 1), (8, 2), (9, 2), (10, 0)] rfl (by kernel_rfl) (by kernel_rfl) ((H.drew)) ?_
   intro ops hOps hS
   replace H := H.drew
   iterate 5 refine fm hOps ?_
   refine tm hOps hS (fun w hw => (raw_cell (hw.heap 0 rfl) pl).trans hct.out) ?_
   refine fm hOps ?_
   refine tm hOps hS (fun w hw => at_raw hw 2 rfl hc13.out) ?_
   iterate 2 refine fm hOps ?_
   refine wpM_next hOps rfl rfl ?_
   intro K hK
   refine wp_store_fr 5 _ _ rfl (off := pl) (v := .int .u8 (iv (x0 ^^^ o.turn))) rfl (congrArg (Value.int .u8) (iv_xor8 x0 o.turn)) (by kernel_rfl) rfl H (by rw [List.size_toArray, List.length_append, v8_length]; have := hpb.out; omega) (by have h1 := HCF.out.2; rw [List.length_append, v8_length] at h1; have := hpb.out; omega) (fun w' H => ?_)
   rw [byte_set hpb.out] at H
   refine hK _ _ (.inl (by decide)) ?_
   clear hK K
   simp only [nrm]
   refine wpM_end ?_
   clear hOps hS ops
   go_wp2_with fail
   go_ret
   have hfin : bs.set pl (x0 ^^^ o.turn) = o.built now := by
    rw [OpD.built, ← HP.out, HX0.out, HPL.out]
    have : bs = packOf p := by rw [← HBS.out, packOf]; simp only [List.append_assoc]
    rw [this]
   have hl9 : (bs.set pl (x0 ^^^ o.turn)).length = 614 := by rw [List.length_set, hbl.out]
   have H2 := byt_shut (bs := bs.set pl (x0 ^^^ o.turn)) (b := B) (cap := cap) (fr := fr) (r := r) (by rw [hl9]; exact HCF.out.1) (by have h1 := HCF.out.2; simp only [List.length_append, v8_length, List.length_set] at h1 ⊢; exact h1) (H.maskR [true, false, false])
   rw [hl9] at H2
   exact ⟨_, rfl, by rw [← hfin]; exact H2⟩
end Go.Proofs.YtmflbekabkainaaGreatDoor
