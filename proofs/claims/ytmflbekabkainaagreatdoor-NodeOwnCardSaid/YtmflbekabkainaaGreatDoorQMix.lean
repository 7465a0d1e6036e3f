import Derived.Test.YtmflbekabkainaaGreatDoorQSpread
import Derived.Test.YtmflbekabkainaaGreatDoorQGlob
set_option linter.unusedVariables false
set_option linter.unusedSimpArgs false
namespace Go.Proofs.YtmflbekabkainaaGreatDoor
open Go.RowKit Go.Hg
theorem iv_notmax (a : BitVec 32) : bits .xor .u32 IntKind.u32.max (iv a) = iv (~~~a) := iv_not32 a
attribute [local go_sem] iv_notmax iv_add32 iv_xor32 iv_or32 iv_and32 iv_not32 iv_8_32 iv_32_8 iv_nonneg
theorem stC_set_h {b : Bool} {h : List (BitVec 32)} {part : List (BitVec 8)} {n : Nat} (hh : h.length = 8) {i : Nat} (hi : i < 8) (x : BitVec 32) : (stC b h part n).toArray.setIfInBounds (1 + i) (.int .u32 (iv x)) = (stC b (h.set i x) part n).toArray := by
 apply Array.ext'
 rw [Array.toList_setIfInBounds]
 have e : ∀ h, stC b h part n = Value.bool b :: (v32 h ++ (v8 part ++ [.int .u64 (n : Int)])) := fun h => by simp [stC]
 rw [e, e, Nat.add_comm 1 i]
 show ((Value.bool b :: (v32 h ++ (v8 part ++ [.int .u64 (n : Int)]))).set (i + 1) _) = _
 rw [List.set_cons_succ, List.set_append_left _ _ (by rw [v32_length, hh]; exact hi), v32_set]
theorem len8 {l : List (BitVec 32)} (h : l.length = 8) : ∃ a b c d e f g i, l = [a, b, c, d, e, f, g, i] := by
 match l, h with
 | [a, b, c, d, e, f, g, i], _ => exact ⟨a, b, c, d, e, f, g, i, rfl⟩
set_option maxRecDepth 10000 in
set_option maxHeartbeats 1000000 in
theorem mix_c {w0 w : World} {F : List SP} {p n : Nat} {b : Bool} {hs : List (BitVec 32)} {part : List (BitVec 8)} (G : Glob w0) (H : At w0 (strm p b hs part n :: F) w) (hh : hs.length = 8) (hp : part.length = 64) :
    Calls Tryz.prog 158 #[.pointer (some ⟨p, 0, none⟩)] w fun e w' => e = .returned (.tuple #[]) ∧ At w0 (strm p b (mixB K0 hs part) part n :: F) w' := by
 have info_a8 : (Tryz.prog.info? 252).map (fun i => (i.zero, i.size, i.bytes)) = some (some (.agg (v32 (List.replicate 8 0)).toArray), 8, 32) := by kernel_rfl
 have hsz : (Tryz.prog.info? 252).map (·.size) = some (v32 hs).length := by rw [v32_length, hh]; kernel_rfl
 have hrow : ∀ w', At w0 (strm p b hs part n :: F) w' → w'.rangeAt p 1 (v32 hs) := fun w' H' j v hj => by
  have hj8 : j < 8 := by have := (List.getElem?_eq_some_iff.1 hj).1; rwa [v32_length, hh] at this
  rw [v32_get (by omega)] at hj
  cases hj
  exact at_raw H' 0 rfl (stC_h hh hj8)
 obtain ⟨W, hW⟩ : ∃ W, W = wsOf part 64 := ⟨_, rfl⟩
 have hWl : W.length = 64 := by rw [hW]; exact wsOf_length _ _
 have hsp := fun w (H : At w0 (raw (0 : Nat) #[] 0 :: F) w) => H
 obtain ⟨M, hM⟩ : ∃ M, M = mixB K0 hs part := ⟨_, rfl⟩
 rw [← hM]
 have HMM := Lib.hid hM
 clear hM
 have HSZ := Lib.hid hsz
 have HHH := Lib.hid hh
 have HWL := Lib.hid hWl
 have HW := Lib.hid hW
 clear hsz hh hWl hW hsp
 go_enter Tryz.func158, Tryz.ntmps158
 go_wp2_with ((with_reducible refine wpList_op rfl ?_); intro _ hK; first
  | (refine wp_mid 252 _ rfl rfl (v32 hs) (by kernel_rfl) HSZ.out (hrow _ H) (hK _ _ ?_))
  | (refine wp_alloc_sl 252 rfl info_a8 H (fun V w' (H : At w0 (raw V (v32 (List.replicate 8 0)).toArray 252 :: strm p b hs part n :: F) w') _ => hK _ _ ?_))
  | (refine wp_store_row_sl 252 _ _ rfl (cells := (v32 hs).toArray) rfl rfl (by rw [List.size_toArray]; exact HSZ.out) (by simpa using v32_one hs) 0 H rfl (by simp [v32_length, HHH.out]) (fun w' (H : At w0 (raw V (v32 hs).toArray 252 :: strm p b hs part n :: F) w') => hK _ _ ?_)))
 refine (spread_c (H.pull 1 rfl) HHH.out hp).mono ?_; rintro e w' ⟨rfl, H⟩
 replace H : At w0 (raw V (v32 hs).toArray 252 :: strm p b hs part n :: F) w' := H.pull 1 rfl
 rw [← HW.out]
 go_wp2_with fail
 go_loopw [16] (fun i wr => ∃ i' : Nat, i' ≤ 64 ∧ i = .int .i64 i' ∧ At w0 (raw V (v32 (rnds K0 W hs i')).toArray 252 :: strm p b hs part n :: F) wr) (fun i _ => 64 - (intOf i).toNat)
 case atStart => exact ⟨0, by omega, rfl, H⟩
 case round =>
  clear H
  obtain ⟨i, hi, rfl, H⟩ := hrel
  by_cases h64 : (i : Int) < 64
  · have hidx : ∀ w, (Instr.index 280 (.agg (v32 W).toArray) (.int .i64 (i : Int))).run Tryz.prog w = .ok (.int .u32 (iv (gw W i))) w := fun w => run_index_agg under_w64 (fun _ => by kernel_rfl) (fun _ => by kernel_rfl) (by omega) (v32_get (by rw [HWL.out]; omega)) w
    obtain ⟨x, hx⟩ : ∃ x, x = gw W i := ⟨_, rfl⟩
    obtain ⟨k, hk⟩ : ∃ k, k = gw K0 i := ⟨_, rfl⟩
    have ck : (v32 K0)[i]? = some (.int .u32 (iv k)) := by rw [hk]; exact v32_get (by rw [K0_length]; omega)
    have hr : rnds K0 W hs (i + 1) = rnd (rnds K0 W hs i) k x := by rw [hx, hk]; rfl
    rw [← hx] at hidx
    obtain ⟨x0, x1, x2, x3, x4, x5, x6, x7, hv⟩ := len8 (rnds_length K0 W HHH.out i)
    rw [hv] at H hr
    have HR := Lib.hid hr
    clear hx hk hr hv
    go_wp2_with fail
    refine wpM_begin [] ((At w0 (raw V (v32 [x0, x1, x2, x3, x4, x5, x6, x7]).toArray 252 :: strm p b hs part n :: F))) [(0, 2), (1, 1), (2, 2), (3, 1), (4, 0), (5, 0)] rfl (by kernel_rfl) (by kernel_rfl) ((H.drew)) ?_
    intro ops hOps hS
    replace H := H.drew
    refine fm hOps ?_
    refine tm hOps hS (fun w hw => at_raw hw 0 rfl (v := .int .u32 (iv x0)) rfl) ?_
    refine fm hOps ?_
    refine tm hOps hS (fun w hw => at_raw hw 0 rfl (v := .int .u32 (iv x4)) rfl) ?_
    refine wpM_next hOps rfl rfl ?_
    intro K hK
    refine wp_run rfl ?_
    have hS := (hS)
    refine hK _ _ (.inr hS) ?_
    clear hK K
    simp only [nrm]
    refine wpM_next hOps rfl rfl ?_
    intro K hK
    refine wp_run rfl ?_
    have hS := (hS)
    refine hK _ _ (.inr hS) ?_
    clear hK K
    simp only [nrm]
    refine wpM_end ?_
    clear hOps hS ops
    go_wp2_with fail
    refine wpM_begin [] ((At w0 (raw V (v32 [x0, x1, x2, x3, x4, x5, x6, x7]).toArray 252 :: strm p b hs part n :: F))) [(0, 2), (1, 1), (2, 2), (4, 2), (7, 2), (11, 2), (12, 2), (13, 1), (14, 2), (15, 2), (16, 2), (17, 2), (18, 1), (19, 2), (20, 2), (22, 2), (23, 2), (24, 1), (26, 2), (3, 0), (5, 0), (6, 2), (8, 0), (9, 2), (10, 2), (21, 2), (25, 2), (27, 2), (28, 0)] rfl (by kernel_rfl) (by kernel_rfl) ((H.drew)) ?_
    intro ops hOps hS
    replace H := H.drew
    refine fm hOps ?_
    refine tm hOps hS (fun w hw => at_raw hw 0 rfl (v := .int .u32 (iv x7)) rfl) ?_
    iterate 5 refine fm hOps ?_
    refine tm hOps hS (fun w hw => at_raw hw 0 rfl (v := .int .u32 (iv x5)) rfl) ?_
    iterate 4 refine fm hOps ?_
    refine tm hOps hS (fun w hw => at_raw hw 0 rfl (v := .int .u32 (iv x6)) rfl) ?_
    iterate 4 refine fm hOps ?_
    refine tm hOps hS (fun w hw => at_glob hw G.steady ck) ?_
    refine fm hOps ?_
    refine wpM_next hOps rfl rfl ?_
    intro K hK
    refine wp_call _ _ _ rfl Tryz.func163 rfl (by kernel_rfl) ?_
    simp only [List.map_toArray, List.map_cons, List.map_nil, Act.eval, Array.getD_eq_getD_getElem?, List.getElem?_toArray, List.getElem?_cons_zero, List.getElem?_cons_succ, Option.getD_some]
    refine (turned_c x4 6 (by omega) (by omega) _).mono ?_; rintro e w' ⟨rfl, rfl⟩
    have hS := (hS)
    refine hK _ _ (.inr hS) ?_
    clear hK K
    simp only [nrm]
    refine wpM_next hOps rfl rfl ?_
    intro K hK
    refine wp_call _ _ _ rfl Tryz.func163 rfl (by kernel_rfl) ?_
    simp only [List.map_toArray, List.map_cons, List.map_nil, Act.eval, Array.getD_eq_getD_getElem?, List.getElem?_toArray, List.getElem?_cons_zero, List.getElem?_cons_succ, Option.getD_some]
    refine (turned_c x4 11 (by omega) (by omega) _).mono ?_; rintro e w' ⟨rfl, rfl⟩
    have hS := (hS)
    refine hK _ _ (.inr hS) ?_
    clear hK K
    simp only [nrm]
    refine fm hOps ?_
    refine wpM_next hOps rfl rfl ?_
    intro K hK
    refine wp_call _ _ _ rfl Tryz.func163 rfl (by kernel_rfl) ?_
    simp only [List.map_toArray, List.map_cons, List.map_nil, Act.eval, Array.getD_eq_getD_getElem?, List.getElem?_toArray, List.getElem?_cons_zero, List.getElem?_cons_succ, Option.getD_some]
    refine (turned_c x4 25 (by omega) (by omega) _).mono ?_; rintro e w' ⟨rfl, rfl⟩
    have hS := (hS)
    refine hK _ _ (.inr hS) ?_
    clear hK K
    simp only [nrm]
    iterate 5 refine fm hOps ?_
    refine wpM_next hOps rfl rfl ?_
    intro K hK
    refine wp_run rfl ?_
    have hS := (hS)
    refine hK _ _ (.inr hS) ?_
    clear hK K
    simp only [nrm]
    refine wpM_end ?_
    clear hOps hS ops
    go_wp2_with fail
    refine wpM_begin [] ((At w0 (raw V (v32 [x0, x1, x2, x3, x4, x5, x6, x7]).toArray 252 :: strm p b hs part n :: F))) [(0, 2), (2, 2), (5, 2), (8, 2), (9, 2), (10, 1), (11, 2), (12, 2), (13, 2), (14, 1), (15, 2), (16, 2), (17, 2), (18, 1), (19, 2), (20, 1), (21, 2), (22, 2), (1, 0), (3, 0), (4, 2), (6, 0), (7, 2), (23, 2), (24, 0)] rfl (by kernel_rfl) (by kernel_rfl) ((H.drew)) ?_
    intro ops hOps hS
    replace H := H.drew
    iterate 5 refine fm hOps ?_
    refine tm hOps hS (fun w hw => at_raw hw 0 rfl (v := .int .u32 (iv x1)) rfl) ?_
    iterate 3 refine fm hOps ?_
    refine tm hOps hS (fun w hw => at_raw hw 0 rfl (v := .int .u32 (iv x2)) rfl) ?_
    iterate 3 refine fm hOps ?_
    refine tm hOps hS (fun w hw => at_raw hw 0 rfl (v := .int .u32 (iv x1)) rfl) ?_
    refine fm hOps ?_
    refine tm hOps hS (fun w hw => at_raw hw 0 rfl (v := .int .u32 (iv x2)) rfl) ?_
    iterate 2 refine fm hOps ?_
    refine wpM_next hOps rfl rfl ?_
    intro K hK
    refine wp_call _ _ _ rfl Tryz.func163 rfl (by kernel_rfl) ?_
    simp only [List.map_toArray, List.map_cons, List.map_nil, Act.eval, Array.getD_eq_getD_getElem?, List.getElem?_toArray, List.getElem?_cons_zero, List.getElem?_cons_succ, Option.getD_some]
    refine (turned_c x0 2 (by omega) (by omega) _).mono ?_; rintro e w' ⟨rfl, rfl⟩
    have hS := (hS)
    refine hK _ _ (.inr hS) ?_
    clear hK K
    simp only [nrm]
    refine wpM_next hOps rfl rfl ?_
    intro K hK
    refine wp_call _ _ _ rfl Tryz.func163 rfl (by kernel_rfl) ?_
    simp only [List.map_toArray, List.map_cons, List.map_nil, Act.eval, Array.getD_eq_getD_getElem?, List.getElem?_toArray, List.getElem?_cons_zero, List.getElem?_cons_succ, Option.getD_some]
    refine (turned_c x0 13 (by omega) (by omega) _).mono ?_; rintro e w' ⟨rfl, rfl⟩
    have hS := (hS)
    refine hK _ _ (.inr hS) ?_
    clear hK K
    simp only [nrm]
    refine fm hOps ?_
    refine wpM_next hOps rfl rfl ?_
    intro K hK
    refine wp_call _ _ _ rfl Tryz.func163 rfl (by kernel_rfl) ?_
    simp only [List.map_toArray, List.map_cons, List.map_nil, Act.eval, Array.getD_eq_getD_getElem?, List.getElem?_toArray, List.getElem?_cons_zero, List.getElem?_cons_succ, Option.getD_some]
    refine (turned_c x0 22 (by omega) (by omega) _).mono ?_; rintro e w' ⟨rfl, rfl⟩
    have hS := (hS)
    refine hK _ _ (.inr hS) ?_
    clear hK K
    simp only [nrm]
    iterate 2 refine fm hOps ?_
    refine wpM_next hOps rfl rfl ?_
    intro K hK
    refine wp_run rfl ?_
    have hS := (hS)
    refine hK _ _ (.inr hS) ?_
    clear hK K
    simp only [nrm]
    refine wpM_end ?_
    clear hOps hS ops
    generalize hT : x7 + (rr x4 6 ^^^ rr x4 11 ^^^ rr x4 25) + (x4 &&& x5 ^^^ ~~~x4 &&& x6) + k + x = t
    generalize hU : (rr x0 2 ^^^ rr x0 13 ^^^ rr x0 22) + (x0 &&& x1 ^^^ x0 &&& x2 ^^^ x1 &&& x2) = u
    have HT := Lib.hid hT
    have HU := Lib.hid hU
    clear hT hU
    go_wp2_with fail
    refine wpM_begin [2] ((At w0 (raw V (v32 [x0, x1, x2, x3, x4, x5, x6, x7]).toArray 252 :: strm p b hs part n :: F))) [(0, 2), (1, 2), (2, 0)] rfl (by kernel_rfl) (by kernel_rfl) ((H.drew)) ?_
    intro ops hOps hS
    replace H := H.drew
    iterate 2 refine fm hOps ?_
    refine wpM_next hOps rfl rfl ?_
    intro K hK
    refine wp_copy_in (e := 36) _ _ _ _ rfl (by kernel_rfl) (by kernel_rfl) rfl rfl 0 H rfl (cs := v32 [x0, x1, x2, x3, x4, x5, x6]) rfl (fun j v hj => ?cc) (Nat.le_refl 8) (v32_one _) (fun w' H => ?_)
    case cc =>
     rw [Addr.add_lit, Nat.zero_add]
     refine at_raw H 0 rfl ?_
     have hj7 : j < 7 := (List.getElem?_eq_some_iff.1 hj).1
     rw [← hj]
     match j, hj7 with
     | 0, _ => rfl
     | 1, _ => rfl
     | 2, _ => rfl
     | 3, _ => rfl
     | 4, _ => rfl
     | 5, _ => rfl
     | 6, _ => rfl
    replace H : At w0 (raw V (v32 [x0, x0, x1, x2, x3, x4, x5, x6]).toArray 252 :: strm p b hs part n :: F) w' := H
    refine hK _ _ (.inl (by decide)) ?_
    clear hK K
    simp only [nrm]
    refine wpM_end ?_
    clear hOps hS ops
    go_wp2_with ((with_reducible refine wpList_op rfl ?_); intro _ hK; first
     | (refine wp_get 36 _ rfl rfl (by kernel_rfl) (at_raw H 0 rfl (v := .int .u32 (iv x3)) rfl) (hK _ _ ?_))
     | (refine wp_st32 36 _ _ rfl (i := 0) (v := t + u) rfl rfl (by kernel_rfl) 0 H rfl (show 0 < 8 by omega) (fun w' (H : At w0 (raw V (v32 [t + u, x0, x1, x2, x3, x4, x5, x6]).toArray 252 :: strm p b hs part n :: F) w') => hK _ _ ?_))
     | (refine wp_st32 36 _ _ rfl (i := 4) (v := x3 + t) rfl rfl (by kernel_rfl) 0 H rfl (show 4 < 8 by omega) (fun w' (H : At w0 (raw V (v32 [t + u, x0, x1, x2, x3 + t, x4, x5, x6]).toArray 252 :: strm p b hs part n :: F) w') => hK _ _ ?_)))
    have hH : At w0 (raw V (v32 (rnds K0 W hs (i + 1))).toArray 252 :: strm p b hs part n :: F) w' := by
     rw [HR.out]
     have e : rnd [x0, x1, x2, x3, x4, x5, x6, x7] k x = [t + u, x0, x1, x2, x3 + t, x4, x5, x6] := by rw [← HT.out, ← HU.out]; rfl
     rw [e]
     exact H
    clear H
    first
     | (refine ⟨?_, ?measure⟩; iterate 220 (try apply Exists.intro); refine ⟨?rel, rfl⟩)
     | refine ⟨?rel, ?measure⟩
    case rel => exact ⟨i + 1, by omega, by go_num, hH⟩
    case measure => simp [intOf]; omega
  · obtain rfl : i = 64 := by omega
    obtain ⟨v, hv⟩ : ∃ v, v = rnds K0 W hs 64 := ⟨_, rfl⟩
    have hvl : v.length = 8 := by rw [hv]; exact rnds_length K0 W HHH.out 64
    rw [← hv] at H
    have hm : M = addw hs v 8 := by rw [hv, HW.out]; exact HMM.out
    have HM := Lib.hid hm
    have HVL := Lib.hid hvl
    clear hv hm hvl
    go_wp2_with fail
    go_loopw [89] (fun i wr => ∃ i' : Nat, i' ≤ 8 ∧ i = .int .i64 i' ∧ At w0 (raw V (v32 v).toArray 252 :: strm p b (addw hs v i') part n :: F) wr) (fun i _ => 8 - (intOf i).toNat)
    case atStart => exact ⟨0, by omega, rfl, by rw [addw_zero v HHH.out]; exact H⟩
    case round =>
     clear H
     obtain ⟨i, hi, rfl, H⟩ := hrel
     by_cases h8 : (i : Int) < 8
     · have ca : (stC b (addw hs v i) part n)[1 + i]? = some (.int .u32 (iv (gw (addw hs v i) i))) := stC_h (addw_length _ _ _) (by omega)
       have cb : (v32 v)[i]? = some (.int .u32 (iv (gw v i))) := v32_get (by rw [HVL.out]; omega)
       have hw : (addw hs v i).set i (gw (addw hs v i) i + gw v i) = addw hs v (i + 1) := addw_succ (by omega)
       obtain ⟨x, hx⟩ : ∃ x, x = gw (addw hs v i) i := ⟨_, rfl⟩
       obtain ⟨y, hy⟩ : ∃ y, y = gw v i := ⟨_, rfl⟩
       rw [← hx] at ca hw
       rw [← hy] at cb hw
       have HA := Lib.hid hw
       clear hx hy hw
       go_wp2_with fail
       refine wpM_begin [13] ((At w0 (raw V (v32 v).toArray 252 :: strm p b (addw hs v i) part n :: F))) [(0, 2), (1, 2), (2, 2), (3, 2), (4, 2), (5, 1), (6, 2), (7, 2), (8, 1), (9, 2), (10, 2), (11, 2), (12, 2), (13, 0)] rfl (by kernel_rfl) (by kernel_rfl) ((H.drew)) ?_
       intro ops hOps hS
       replace H := H.drew
       iterate 5 refine fm hOps ?_
       refine tm hOps hS (fun w hw => at_raw hw 1 rfl ca) ?_
       iterate 2 refine fm hOps ?_
       refine tm hOps hS (fun w hw => at_raw hw 0 rfl cb) ?_
       iterate 4 refine fm hOps ?_
       refine wpM_next hOps rfl rfl ?_
       intro K hK
       refine wp_store_sl 36 _ _ rfl (off := 1 + i) (v := .int .u32 (iv (x + y))) rfl rfl (by kernel_rfl) rfl 1 H rfl (by rw [List.size_toArray, stC_length (addw_length _ _ _) hp]; omega) (fun w' H => ?_)
       rw [stC_set_h (addw_length _ _ _) (by omega), HA.out] at H
       refine hK _ _ (.inl (by decide)) ?_
       clear hK K
       simp only [nrm]
       refine wpM_end ?_
       clear hOps hS ops
       go_wp2_with fail
       first
        | (refine ⟨?_, ?measure⟩; iterate 220 (try apply Exists.intro); refine ⟨?rel, rfl⟩)
        | refine ⟨?rel, ?measure⟩
       case rel => exact ⟨i + 1, by omega, by go_num, H⟩
       case measure => simp [intOf]; omega
     · obtain rfl : i = 8 := by omega
       go_wp2_with fail
       go_end0
       exact ⟨rfl, by rw [HM.out]; exact H.tail⟩
end Go.Proofs.YtmflbekabkainaaGreatDoor
