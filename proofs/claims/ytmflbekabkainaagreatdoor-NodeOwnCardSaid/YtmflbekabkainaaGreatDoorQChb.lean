import Derived.Test.YtmflbekabkainaaGreatDoorQCha
set_option linter.unusedVariables false
set_option linter.unusedSimpArgs false
namespace Go.Proofs.YtmflbekabkainaaGreatDoor
open Go.RowKit Go.Hg
attribute [local go_sem] iv_add32 iv_nonneg
theorem info_b64 : (Tryz.prog.info? 200).map (fun i => (i.zero, i.size, i.bytes)) = some (some (.agg (v8 (zs 64)).toArray), 64, 64) := by kernel_rfl
theorem info_a4 : (Tryz.prog.info? 263).map (fun i => (i.zero, i.size, i.bytes)) = some (some (.agg #[.int .i64 0, .int .i64 0, .int .i64 0, .int .i64 0]), 4, 32) := by kernel_rfl
theorem size_b64 : (Tryz.prog.info? 200).map (·.size) = some 64 := by kernel_rfl
theorem size_n12 : (Tryz.prog.info? 221).map (·.size) = some 12 := by kernel_rfl
theorem size_state : (Tryz.prog.info? 260).map (·.size) = some 16 := by kernel_rfl
theorem under_b64 : Tryz.prog.underlying 200 = some (.array 64 5) := by kernel_rfl
theorem quarter_at {i : Nat} (hi : i < 8) : ∃ a b c d : Nat, (((a : Int) < 16 ∧ (b : Int) < 16) ∧ (c : Int) < 16 ∧ (d : Int) < 16) ∧ (quartersL)[i]? = some (a, b, c, d) ∧
    ∀ w, (Instr.index 264 (.agg (quartersZ.map (Value.int .i64)).toArray) (.int .i64 (i : Int))).run Tryz.prog w = .ok (.agg #[.int .i64 (a : Int), .int .i64 (b : Int), .int .i64 (c : Int), .int .i64 (d : Int)]) w := by
 match i, hi with
 | 0, _ => exact ⟨0, 4, 8, 12, by decide, rfl, fun w => by kernel_rfl⟩
 | 1, _ => exact ⟨1, 5, 9, 13, by decide, rfl, fun w => by kernel_rfl⟩
 | 2, _ => exact ⟨2, 6, 10, 14, by decide, rfl, fun w => by kernel_rfl⟩
 | 3, _ => exact ⟨3, 7, 11, 15, by decide, rfl, fun w => by kernel_rfl⟩
 | 4, _ => exact ⟨0, 5, 10, 15, by decide, rfl, fun w => by kernel_rfl⟩
 | 5, _ => exact ⟨1, 6, 11, 12, by decide, rfl, fun w => by kernel_rfl⟩
 | 6, _ => exact ⟨2, 7, 8, 13, by decide, rfl, fun w => by kernel_rfl⟩
 | 7, _ => exact ⟨3, 4, 9, 14, by decide, rfl, fun w => by kernel_rfl⟩
def quN (s : List (BitVec 32)) (i : Nat) : List (BitVec 32) := (quartersL.take i).foldl (fun s q => quarterQ s q.1 q.2.1 q.2.2.1 q.2.2.2) s
theorem quN_succ (s : List (BitVec 32)) {i a b c d : Nat} (h : quartersL[i]? = some (a, b, c, d)) : quN s (i + 1) = quarterQ (quN s i) a b c d := by
 unfold quN
 rw [List.take_add_one, h, List.foldl_append]
 rfl
theorem quN_length (s : List (BitVec 32)) (i : Nat) : (quN s i).length = s.length := foldQ_length _ _
theorem firstS_eq {key nonce : List (BitVec 8)} (hk : key.length = 32) (hn : nonce.length = 12) (c : BitVec 32) (Z : List (BitVec 32)) (hZ : Z = sigma ++ List.replicate 12 0) :
    putW ((putW Z (wordsL key) 4 8).set 12 c) (wordsL nonce) 13 3 = firstS key c nonce := by
 have hk8 : (wordsL key).length = 8 := by rw [wordsL_length, hk]
 have hn3 : (wordsL nonce).length = 3 := by rw [wordsL_length, hn]
 subst hZ
 obtain ⟨a, b, d, e, f, g, h, i, hK⟩ := len8 hk8
 obtain ⟨x, y, z, hN⟩ : ∃ x y z, wordsL nonce = [x, y, z] := by
  match wordsL nonce, hn3 with
  | [x, y, z], _ => exact ⟨x, y, z, rfl⟩
 unfold firstS
 rw [hK, hN]
 rfl
theorem blockOf_get {key nonce : List (BitVec 8)} {cn : BitVec 32} {fs rs : List (BitVec 32)} (hf : fs = firstS key cn nonce) (hr : rs = roundsR fs 10) (hl : fs.length = 16) {i k : Nat} (hi : i < 16) (hk : k < 4) :
    gb (blockOf key cn nonce) (4 * i + k) = gb (outL (gw rs i + gw fs i)) k := by
 unfold blockOf
 have hrl : rs.length = 16 := by rw [hr, roundsR_length]; exact hl
 rw [← hf, ← hr, flat_get (fun _ => rfl) _ i k (by rw [List.length_zipWith, hrl, hl]; omega) hk]
 congr 2
 refine gw_of ?_
 rw [List.getElem?_zipWith, gw_get (by omega), gw_get (by omega)]
set_option maxRecDepth 10000 in
set_option maxHeartbeats 2000000 in
theorem block_c {w0 w : World} {F : List SP} {key nonce : List (BitVec 8)} {cn : BitVec 32} {z : Int} (hz : z = iv cn) (G : Glob w0) (H : At w0 F w) (hk : key.length = 32) (hn : nonce.length = 12) :
    Calls Tryz.prog 130 #[.agg (v8 key).toArray, .int .u32 z, .agg (v8 nonce).toArray] w fun e w' => e = .returned (.agg (v8 (blockOf key cn nonce)).toArray) ∧ At w0 F w' := by
 subst hz
 obtain ⟨T, hT⟩ : ∃ T, T = blockOf key cn nonce := ⟨_, rfl⟩
 rw [← hT]
 have hTl := Lib.hid (show T.length = 64 by rw [hT]; exact blockOf_length hk hn cn)
 obtain ⟨fs, hfs⟩ : ∃ fs, fs = firstS key cn nonce := ⟨_, rfl⟩
 have hfl := Lib.hid (show fs.length = 16 by rw [hfs]; exact firstS_length hk hn cn)
 obtain ⟨rs, hrs⟩ : ∃ rs, rs = roundsR fs 10 := ⟨_, rfl⟩
 have hrl := Lib.hid (show rs.length = 16 by rw [hrs, roundsR_length]; exact hfl.out)
 have HG := Lib.hid (fun i k (hi : i < 16) (hk : k < 4) => (show gb T (4 * i + k) = gb (outL (gw rs i + gw fs i)) k by rw [hT]; exact blockOf_get hfs hrs hfl.out hi hk))
 have HFS := Lib.hid (fun Z hZ => (firstS_eq hk hn cn Z hZ).trans hfs.symm)
 have HRS := Lib.hid hrs
 have HK := Lib.hid hk
 have HN := Lib.hid hn
 clear hT hfs hrs hk hn
 go_enter Tryz.func130, Tryz.ntmps130
 go_wp2_with ((with_reducible refine wpList_op rfl ?_); intro _ hK; first
  | (refine wp_box_sl (v := .agg (v8 key).toArray) 41 _ rfl rfl H (fun A w' (H : At w0 (raw A (v8 key).toArray 41 :: F) w') _ => hK _ _ ?_))
  | (refine wp_box_sl (v := .agg (v8 nonce).toArray) 221 _ rfl rfl H (fun B w' (H : At w0 (raw B (v8 nonce).toArray 221 :: raw A (v8 key).toArray 41 :: F) w') _ => hK _ _ ?_))
  | (refine wp_alloc_sl 200 rfl info_b64 H (fun O w' (H : At w0 (raw O (v8 (zs 64)).toArray 200 :: raw B (v8 nonce).toArray 221 :: raw A (v8 key).toArray 41 :: F) w') _ => hK _ _ ?_))
  | (refine wp_alloc_sl 260 rfl info_state H (fun S w' (H : At w0 (raw S (v32 (List.replicate 16 0)).toArray 260 :: raw O (v8 (zs 64)).toArray 200 :: raw B (v8 nonce).toArray 221 :: raw A (v8 key).toArray 41 :: F) w') _ => hK _ _ ?_)))
 refine wpM_begin [2] ((At w0 (raw S (v32 (List.replicate 16 0)).toArray 260 :: raw O (v8 (zs 64)).toArray 200 :: raw B (v8 nonce).toArray 221 :: raw A (v8 key).toArray 41 :: F))) [(0, 2), (1, 2), (2, 0)] rfl (by kernel_rfl) (by kernel_rfl) ((H.drew)) ?_
 intro ops hOps hS
 replace H := H.drew
 iterate 2 refine fm hOps ?_
 refine wpM_next hOps rfl rfl ?_
 intro K hK
 refine wp_copy_in (e := 36) _ _ _ _ rfl (by kernel_rfl) (by kernel_rfl) rfl rfl 0 H rfl (cs := v32 sigma) rfl (fun j v hj => by rw [Addr.add_lit, Nat.zero_add]; exact at_glob H G.begins hj) (by decide) (v32_one _) (fun w' H => ?_)
 refine hK _ _ (.inl (by decide)) ?_
 clear hK K
 simp only [nrm]
 refine wpM_end ?_
 clear hOps hS ops
 obtain ⟨Z, hZ⟩ : ∃ Z : List (BitVec 32), Z = sigma ++ List.replicate 12 0 := ⟨_, rfl⟩
 have hZl : Z.length = 16 := by rw [hZ]; rfl
 replace H : At w0 (raw S (v32 Z).toArray 260 :: raw O (v8 (zs 64)).toArray 200 :: raw B (v8 nonce).toArray 221 :: raw A (v8 key).toArray 41 :: F) w' := by rw [hZ]; exact H
 have HZ := Lib.hid hZ
 have HZL := Lib.hid hZl
 clear hZ hZl
 go_wp2_with fail
 refine (load_c (k := 8) (p := 4) H (see_blk 2 rfl HK.out.symm) HZL.out HK.out (by omega)).mono ?_; rintro e w' ⟨rfl, H⟩
 obtain ⟨Y, hY⟩ : ∃ Y, Y = putW Z (wordsL key) 4 8 := ⟨_, rfl⟩
 have hYl : Y.length = 16 := by rw [hY, putW_length (by rw [HZL.out]; omega) (by rw [wordsL_length, HK.out]; omega)]; exact HZL.out
 rw [← hY] at H
 have HY := Lib.hid hY
 have HYL := Lib.hid hYl
 clear hY hYl
 go_wp2_with ((with_reducible refine wpList_op rfl ?_); intro _ hK; refine wp_st32 36 _ _ rfl (i := 12) (v := cn) rfl rfl (by kernel_rfl) 0 H rfl (by rw [HYL.out]; omega) (fun w' (H : At w0 (raw S (v32 (Y.set 12 cn)).toArray 260 :: raw O (v8 (zs 64)).toArray 200 :: raw B (v8 nonce).toArray 221 :: raw A (v8 key).toArray 41 :: F) w') => hK _ _ ?_))
 refine (load_c (k := 3) (p := 13) H (see_blk 1 rfl HN.out.symm) (by rw [List.length_set]; exact HYL.out) HN.out (by omega)).mono ?_; rintro e w' ⟨rfl, H⟩
 rw [HY.out, HFS.out Z HZ.out] at H
 replace H : At w0 (raw S (v32 fs).toArray 260 :: raw O (v8 (zs 64)).toArray 200 :: F) w' := H.maskR [true, true, false, false]
 go_wp2_with ((with_reducible refine wpList_op rfl ?_); intro _ hK; first
  | (refine wp_mid 260 _ rfl rfl (v32 fs) (by kernel_rfl) (by rw [v32_length, hfl.out]; exact size_state) (at_blk H 0 rfl) (hK _ _ ?_))
  | (refine wp_alloc_sl 260 rfl info_state H (fun R w' (H : At w0 (raw R (v32 (List.replicate 16 0)).toArray 260 :: raw S (v32 fs).toArray 260 :: raw O (v8 (zs 64)).toArray 200 :: F) w') _ => hK _ _ ?_))
  | (refine wp_store_row_sl 260 _ _ rfl (cells := (v32 fs).toArray) rfl rfl (by rw [List.size_toArray, v32_length, hfl.out]; exact size_state) (by simpa using v32_one fs) 0 H rfl (by rw [List.size_toArray, List.size_toArray, v32_length, v32_length, hfl.out]; rfl) (fun w' (H : At w0 (raw R (v32 fs).toArray 260 :: raw S (v32 fs).toArray 260 :: raw O (v8 (zs 64)).toArray 200 :: F) w') => hK _ _ ?_)))
 go_loopw [24] (fun i wr => ∃ i' : Nat, i' ≤ 10 ∧ i = .int .i64 i' ∧ At w0 (raw R (v32 (roundsR fs i')).toArray 260 :: raw S (v32 fs).toArray 260 :: raw O (v8 (zs 64)).toArray 200 :: F) wr) (fun i _ => 10 - (intOf i).toNat)
 case atStart => exact ⟨0, by omega, rfl, H⟩
 case round =>
  clear H
  obtain ⟨i, hi, rfl, H⟩ := hrel
  by_cases hlt : (i : Int) < 10
  · obtain ⟨s, hs⟩ : ∃ s, s = roundsR fs i := ⟨_, rfl⟩
    have hsl : s.length = 16 := by rw [hs, roundsR_length]; exact hfl.out
    have hs1 : roundsR fs (i + 1) = quN s 8 := by rw [hs]; rfl
    rw [← hs] at H
    have HSL := Lib.hid hsl
    have HS1 := Lib.hid hs1
    clear hs hsl hs1
    go_wp2_with ((with_reducible refine wpList_op rfl ?_); intro _ hK; refine wp_mid 264 _ rfl rfl (quartersZ.map (Value.int .i64)) (by kernel_rfl) (by kernel_rfl) (at_range H G.quarters) (hK _ _ ?_))
    go_loopw [27] (fun j wr => ∃ j' : Nat, j' ≤ 8 ∧ j = .int .i64 j' ∧ At w0 (raw R (v32 (quN s j')).toArray 260 :: raw S (v32 fs).toArray 260 :: raw O (v8 (zs 64)).toArray 200 :: F) wr) (fun j _ => 8 - (intOf j).toNat)
    case atStart => exact ⟨0, by omega, rfl, H⟩
    case round =>
     clear H
     obtain ⟨j, hj, rfl, H⟩ := hrel
     by_cases hjl : (j : Int) < 8
     · obtain ⟨a, b, c, d, ⟨⟨ha, hb⟩, hc, hd⟩, hq, hidx⟩ := quarter_at (i := j) (by omega)
       have HQ := Lib.hid (quN_succ s hq)
       clear hq
       go_wp2_with ((with_reducible refine wpList_op rfl ?_); intro _ hK; first
        | (refine wp_alloc_sl 263 rfl info_a4 H (fun Q w' (H : At w0 (raw Q #[.int .i64 0, .int .i64 0, .int .i64 0, .int .i64 0] 263 :: raw R (v32 (quN s j)).toArray 260 :: raw S (v32 fs).toArray 260 :: raw O (v8 (zs 64)).toArray 200 :: F) w') _ => hK _ _ ?_))
        | (refine wp_store_row_sl 263 _ _ rfl (cells := #[.int .i64 a, .int .i64 b, .int .i64 c, .int .i64 d]) rfl rfl (by kernel_rfl) (by simp [Value.oneCell']) 0 H rfl rfl (fun w' (H : At w0 (raw Q #[.int .i64 a, .int .i64 b, .int .i64 c, .int .i64 d] 263 :: raw R (v32 (quN s j)).toArray 260 :: raw S (v32 fs).toArray 260 :: raw O (v8 (zs 64)).toArray 200 :: F) w') => hK _ _ ?_))
        | (refine wp_mid 263 _ rfl rfl [.int .i64 a, .int .i64 b, .int .i64 c, .int .i64 d] (by kernel_rfl) (by kernel_rfl) (at_blk H 0 rfl) (hK _ _ ?_)))
       refine (cmix_c G H.tail (by rw [quN_length]; exact HSL.out) ha hb hc hd).mono ?_; rintro e w' ⟨rfl, H⟩
       rw [← HQ.out] at H
       go_wp2_with fail
       first
        | (refine ⟨?_, ?measure⟩; iterate 220 (try apply Exists.intro); refine ⟨?rel, rfl⟩)
        | refine ⟨?rel, ?measure⟩
       case rel => exact ⟨j + 1, by omega, by go_num, H⟩
       case measure => simp [intOf]; omega
     · obtain rfl : j = 8 := by omega
       rw [← HS1.out] at H
       go_wp2_with fail
       first
        | (refine ⟨?_, ?measure⟩; iterate 220 (try apply Exists.intro); refine ⟨?rel, rfl⟩)
        | refine ⟨?rel, ?measure⟩
       case rel => exact ⟨i + 1, by omega, by go_num, H⟩
       case measure => simp [intOf]; omega
  · obtain rfl : i = 10 := by omega
    rw [← HRS.out] at H
    go_wp2_with ((with_reducible refine wpList_op rfl ?_); intro _ hK; refine wp_mid 260 _ rfl rfl (v32 rs) (by kernel_rfl) (by rw [v32_length, hrl.out]; exact size_state) (at_blk H 0 rfl) (hK _ _ ?_))
    replace H : At w0 (raw O (v8 (zs 64)).toArray 200 :: raw S (v32 fs).toArray 260 :: F) wr := H.tail.pull 1 rfl
    go_loopw [35] (fun i wr => ∃ i' : Nat, i' ≤ 16 ∧ i = .int .i64 i' ∧ At w0 (raw O (v8 (upto T 64 (4 * i'))).toArray 200 :: raw S (v32 fs).toArray 260 :: F) wr) (fun i _ => 16 - (intOf i).toNat)
    case atStart => exact ⟨0, by omega, rfl, by rw [Nat.mul_zero, upto_zero]; exact H⟩
    case round =>
     clear H
     obtain ⟨i, hi, rfl, H⟩ := hrel
     by_cases hi16 : (i : Int) < 16
     · have hidx : ∀ w, (Instr.index 260 (.agg (v32 rs).toArray) (.int .i64 (i : Int))).run Tryz.prog w = .ok (.int .u32 (iv (gw rs i))) w := fun w => run_index_agg under_state (fun _ => by kernel_rfl) (fun _ => by kernel_rfl) (by omega) (v32_get (by rw [hrl.out]; omega)) w
       have cf : (v32 fs)[i]? = some (.int .u32 (iv (gw fs i))) := v32_get (by rw [hfl.out]; omega)
       obtain ⟨x, hx⟩ : ∃ x, x = gw rs i := ⟨_, rfl⟩
       obtain ⟨y, hy⟩ : ∃ y, y = gw fs i := ⟨_, rfl⟩
       rw [← hx] at hidx
       rw [← hy] at cf
       have HX := Lib.hid hx
       have HY := Lib.hid hy
       have HCF := Lib.hid cf
       clear hx hy cf
       go_wp2_with ((with_reducible refine wpList_op rfl ?_); intro _ hK; refine wp_get 36 _ rfl rfl (by kernel_rfl) (at_raw H 1 rfl HCF.out) (hK _ _ ?_))
       obtain ⟨n, hn⟩ : ∃ n, n = x + y := ⟨_, rfl⟩
       rw [← hn]
       have HNN := Lib.hid hn
       clear hn
       go_loopw [44] (fun kk wr => ∃ k' : Nat, k' ≤ 4 ∧ kk = .int .i64 k' ∧ At w0 (raw O (v8 (upto T 64 (4 * i + k'))).toArray 200 :: raw S (v32 fs).toArray 260 :: F) wr) (fun kk _ => 4 - (intOf kk).toNat)
       case atStart => exact ⟨0, by omega, rfl, H⟩
       case round =>
        clear H
        obtain ⟨m, hm, rfl, H⟩ := hrel
        by_cases hm4 : (m : Int) < 4
        · obtain ⟨a, ha⟩ : ∃ a, a = 8 * m := ⟨_, rfl⟩
          have ea : 8 * (m : Int) = (a : Int) := by omega
          have hab : (a : Int) ≤ 24 := by omega
          have e4 : iv n / 2 ^ a = iv (n >>> a) := iv_shr n a
          obtain ⟨u, hu⟩ : ∃ u : BitVec 8, u = (n >>> a).setWidth 8 := ⟨_, rfl⟩
          have e5 : IntKind.u8.wrap (iv (n >>> a)) = iv u := by rw [hu]; exact iv_32_8 _
          have hT3 : gb T (4 * i + m) = u := by rw [HG.out i m (by omega) (by omega), ← HX.out, ← HY.out, ← HNN.out, outL_get n (by omega) ha, hu]
          obtain ⟨c, hc⟩ : ∃ c, c = 4 * i + m := ⟨_, rfl⟩
          have ec : 4 * (i : Int) + (m : Int) = (c : Int) := by omega
          have hcb : (c : Int) < 64 := by omega
          have hst : (upto T 64 c).set c u = upto T 64 (c + 1) := by rw [← hT3, ← hc]; exact upto_set hTl.out (by omega)
          rw [← hc] at H
          have HC := Lib.hid hc
          have HST := Lib.hid hst
          clear hu hT3 hc hst ha
          go_wp2_with ((with_reducible refine wpList_op rfl ?_); intro _ hK; refine wp_st8 5 _ _ rfl (i := c) (v := u) rfl rfl (by kernel_rfl) 0 H rfl (by rw [upto_length hTl.out (by omega)]; omega) (fun w' H => ?_); rw [HST.out] at H; replace H : At w0 (raw O (v8 (upto T 64 (c + 1))).toArray 200 :: raw S (v32 fs).toArray 260 :: F) w' := H; refine hK _ _ ?_)
          first
           | (refine ⟨?_, ?measure⟩; iterate 220 (try apply Exists.intro); refine ⟨?rel, rfl⟩)
           | refine ⟨?rel, ?measure⟩
          case rel => exact ⟨m + 1, by omega, by go_num, by rw [← Nat.add_assoc, ← HC.out]; exact H⟩
          case measure => simp [intOf]; omega
        · obtain rfl : m = 4 := by omega
          go_wp2_with fail
          first
           | (refine ⟨?_, ?measure⟩; iterate 220 (try apply Exists.intro); refine ⟨?rel, rfl⟩)
           | refine ⟨?rel, ?measure⟩
          case rel => exact ⟨i + 1, by omega, by go_num, by rw [Nat.mul_add, Nat.mul_one]; exact H⟩
          case measure => simp [intOf]; omega
     · obtain rfl : i = 16 := by omega
       replace H : At w0 (raw O (v8 (upto T 64 64)).toArray 200 :: F) wr := H.maskR [true, false]
       rw [upto_full hTl.out] at H
       go_wp2_with ((with_reducible refine wpList_op rfl ?_); intro _ hK; first
        | (refine wp_lda 200 _ rfl rfl (by kernel_rfl) (by rw [hTl.out]; exact size_b64) 0 H rfl (hK _ _ ?_))
        | (refine wp_sta 200 _ _ rfl (cs := T) rfl rfl (by rw [hTl.out]; exact size_b64) 0 H rfl rfl (fun w' (H : At w0 (raw O (v8 T).toArray 200 :: F) w') => hK _ _ ?_)))
       exact bodyPost_ret (v := .agg (v8 T).toArray) (results_cell_row rfl _ _ O _ _ _ _ rfl (H.heap 0 rfl) under_b64 rfl (by rw [List.size_toArray, v8_length, hTl.out]; exact size_b64)) rfl ⟨rfl, H.tail⟩
theorem blocks_take {key nonce : List (BitVec 8)} (hk : key.length = 32) (hn : nonce.length = 12) (c n m : Nat) (hm : m = min 64 (n - 64 * c)) (hc : 64 * c < n) :
    (blocksOf key nonce c).take n ++ (blockOf key (BitVec.ofNat 32 c) nonce).take m = (blocksOf key nonce (c + 1)).take n := by
 have h1 := blocksOf_length hk hn c
 have h2 := blockOf_length hk hn (BitVec.ofNat 32 c)
 have e : blocksOf key nonce (c + 1) = blocksOf key nonce c ++ blockOf key (BitVec.ofNat 32 c) nonce := rfl
 rw [e]
 generalize blocksOf key nonce c = X at h1
 generalize blockOf key (BitVec.ofNat 32 c) nonce = Y at h2
 rw [List.take_append, List.take_of_length_le (by omega), h1]
 congr 1
 rw [hm, List.take_eq_take_iff, h2]
 omega
set_option maxRecDepth 10000 in
set_option maxHeartbeats 2000000 in
theorem cstream_c {w0 w : World} {F : List SP} {key nonce : List (BitVec 8)} {n : Nat} (G : Glob w0) (H : At w0 F w) (hk : key.length = 32) (hn : nonce.length = 12) (hnb : n ≤ 1000000) :
    Calls Tryz.prog 117 #[.agg (v8 key).toArray, .agg (v8 nonce).toArray, .int .i64 n] w (NewB w0 F (streamOf key nonce n)) := by
 have hsl := Lib.hid (streamOf_length hk hn n)
 obtain ⟨T, hT⟩ : ∃ T, T = streamOf key nonce n := ⟨_, rfl⟩
 rw [← hT] at hsl ⊢
 have HT := Lib.hid hT
 have HK := Lib.hid hk
 have HN := Lib.hid hn
 have hnb' : (n : Int) ≤ 1000000 := by omega
 clear hT hk hn
 go_enter Tryz.func117, Tryz.ntmps117
 go_wp2_with ((with_reducible refine wpList_op rfl ?_); intro _ hK; first
  | (refine wp_box_sl (v := .agg (v8 key).toArray) 41 _ rfl rfl H (fun A w' (H : At w0 (raw A (v8 key).toArray 41 :: F) w') _ => hK _ _ ?_))
  | (refine wp_box_sl (v := .agg (v8 nonce).toArray) 221 _ rfl rfl H (fun B w' (H : At w0 (raw B (v8 nonce).toArray 221 :: raw A (v8 key).toArray 41 :: F) w') _ => hK _ _ ?_)))
 go_loopw [7, 8] (fun v x wr => ∃ (c l : Nat) (a : Option Addr) (q : Nat), 64 * c < n + 64 ∧ l = min (64 * c) n ∧ v = .slice a l q ∧ x = .int .u32 (iv (BitVec.ofNat 32 c)) ∧ At w0 (lrow 5 1 c8 (.slice a l q) ((blocksOf key nonce c).take n) :: raw B (v8 nonce).toArray 221 :: raw A (v8 key).toArray 41 :: F) wr) (fun v _ _ => n - slen v)
 case atStart => exact ⟨0, 0, none, 0, by omega, by omega, rfl, rfl, by simpa [blocksOf] using lrow_nil H c8 5 1⟩
 case round =>
  clear H
  obtain ⟨c, l, a, q, hc, hl, rfl, rfl, H⟩ := hrel
  by_cases hlt : l < n
  · have hl2 : l = 64 * c := by omega
    have hlt' : (l : Int) < n := by omega
    obtain ⟨m, hm⟩ : ∃ m, m = min 64 (n - l) := ⟨_, rfl⟩
    have hmin : (if (n : Int) - (l : Int) < 64 then (n : Int) - (l : Int) else 64) = (m : Int) := by split <;> omega
    have hmin2 : (if (64 : Int) < (n : Int) - (l : Int) then 64 else (n : Int) - (l : Int)) = (m : Int) := by split <;> omega
    obtain ⟨K, hK⟩ : ∃ K, K = blockOf key (BitVec.ofNat 32 c) nonce := ⟨_, rfl⟩
    have hKl := Lib.hid (show K.length = 64 by rw [hK]; exact blockOf_length HK.out HN.out _)
    have hnx : (blocksOf key nonce c).take n ++ K.take m = (blocksOf key nonce (c + 1)).take n := by rw [hK]; exact blocks_take HK.out HN.out c n m (by omega) (by omega)
    have hlen : ((blocksOf key nonce c).take n).length = l := by rw [List.length_take, blocksOf_length HK.out HN.out]; omega
    have hKm : (K.take m).length = m := by rw [List.length_take, hKl.out]; omega
    have hlm : l + m = min (64 * (c + 1)) n := by omega
    have hmb : (m : Int) ≤ 64 := by omega
    have hm64 : m ≤ 64 := by omega
    have hc1 : IntKind.u32.wrap (iv (BitVec.ofNat 32 c) + 1) = iv (BitVec.ofNat 32 (c + 1)) := by
     have e : (1 : Int) = iv (BitVec.ofNat 32 1) := rfl
     rw [e, iv_add32, BitVec.ofNat_add]
    obtain ⟨x, hx⟩ : ∃ x, x = iv (BitVec.ofNat 32 c) := ⟨_, rfl⟩
    have hxn : 0 ≤ x := by rw [hx]; exact iv_nonneg _
    have HXX := Lib.hid hx
    have HLM := Lib.hid hlm
    have HNX := Lib.hid hnx
    have HLEN := Lib.hid hlen
    have HKM := Lib.hid hKm
    have HCN := Lib.hid (show 64 * (c + 1) < n + 64 by omega)
    obtain ⟨y, hy⟩ : ∃ y, y = iv (BitVec.ofNat 32 (c + 1)) := ⟨_, rfl⟩
    rw [← hx, ← hy] at hc1
    rw [← hx]
    have HYY := Lib.hid hy
    have HKE := Lib.hid hK
    have hmp : 0 < m := by omega
    clear hx hl hl2 hm hK hnx hlen hKm hlm hc hy
    go_wp2_with ((with_reducible refine wpList_op rfl ?_); intro _ hK; first
     | (refine wp_lda 41 _ rfl rfl (by kernel_rfl) (by rw [HK.out]; exact size_key) 2 H rfl (hK _ _ ?_))
     | (refine wp_lda 221 _ rfl rfl (by kernel_rfl) (by rw [HN.out]; exact size_n12) 1 H rfl (hK _ _ ?_)))
    refine (block_c HXX.out G H HK.out HN.out).mono ?_; rintro e w' ⟨rfl, H⟩
    rw [← HKE.out]
    go_wp2_with ((with_reducible refine wpList_op rfl ?_); intro _ hK; first
     | (refine wp_alloc_sl 200 rfl info_b64 H (fun D w' (H : At w0 (raw D (v8 (zs 64)).toArray 200 :: lrow 5 1 c8 (.slice a l q) ((blocksOf key nonce c).take n) :: raw B (v8 nonce).toArray 221 :: raw A (v8 key).toArray 41 :: F) w') _ => hK _ _ ?_))
     | (refine wp_sta 200 _ _ rfl (cs := K) rfl rfl (by rw [hKl.out]; exact size_b64) 0 H rfl (by rw [hKl.out, zs_length]) (fun w' H => ?_); replace H : At w0 (raw D (v8 K).toArray 200 :: lrow 5 1 c8 (.slice a l q) ((blocksOf key nonce c).take n) :: raw B (v8 nonce).toArray 221 :: raw A (v8 key).toArray 41 :: F) w' := H; refine hK _ _ ?_)
     | (have hse := see_part (w0 := w0) (F := raw D (v8 K).toArray 200 :: raw B (v8 nonce).toArray 221 :: raw A (v8 key).toArray 41 :: F) (b := D) (off := 0) (n := m) (cap := 64) (cs := v8 K) (bs := K.take m) (t := 200) 0 rfl HKM.out.symm hm64 (by rw [List.drop_zero]; unfold v8; rw [List.map_take]); refine wp_lapp el_u8 _ _ under_bytes8 (.inl ⟨_, under_bytes8⟩) _ _ rfl (ys := K.take m) (v := .slice a l q) rfl (H.pull 1 rfl) (x := .slice (some ⟨D, 0, none⟩) m 64) rfl (hse.src el_u8 (H.pull 1 rfl).tail) (by rw [HLEN.out, HKM.out]; simp only [maxLen]; omega) (by rw [HLEN.out, HKM.out]; omega) (fun b' q' w' H => ?_); rw [List.length_append, HLEN.out, HKM.out] at H ⊢; rw [HNX.out] at H; obtain ⟨n2, hn2⟩ : ∃ n2, n2 = l + m := ⟨_, rfl⟩; rw [← hn2] at H ⊢; have HN2 := Lib.hid hn2; clear hn2; replace H := H.maskR [true, false, true]; refine hK _ _ ?_))
    first
     | (refine ⟨?_, ?measure⟩; iterate 220 (try apply Exists.intro); refine ⟨?rel, rfl⟩)
     | refine ⟨?rel, ?measure⟩
    case rel => exact ⟨c + 1, n2, b', q', HCN.out, by rw [HN2.out, HLM.out], rfl, by rw [← HYY.out], H⟩
    case measure => show n - n2 < n - l; have := HN2.out; omega
  · have hln : l = n := by omega
    subst hln
    have hcc : c = (l + 63) / 64 := by omega
    have hfin : At w0 (lrow 5 1 c8 (.slice a l q) T :: F) wr := by
     have e : T = (blocksOf key nonce c).take l := by rw [HT.out, hcc]; rfl
     rw [e]
     exact H.maskR [true, false, false]
    clear H hcc hc hl
    go_wp2_with fail
    go_ret
    exact ⟨a, q, by rw [hsl.out]; rfl, by rw [hsl.out]; exact hfin⟩
def NewX (w0 : World) (F : List SP) (bs : List (BitVec 8)) (e : Ending) (w' : World) : Prop := ∃ b, e = .returned (.slice (some ⟨b, 0, none⟩) bs.length bs.length) ∧ At w0 (lrow 5 1 c8 (.slice (some ⟨b, 0, none⟩) bs.length bs.length) bs :: F) w'
set_option maxRecDepth 10000 in
set_option maxHeartbeats 2000000 in
theorem xor_c {w0 w : World} {F : List SP} {va vb : Value} {xs ys : List (BitVec 8)} (H : At w0 F w) (ha : SeeB w0 F va xs) (hb : SeeB w0 F vb ys) (h0 : 0 < xs.length) (hl : xs.length ≤ ys.length) (hsm : ys.length ≤ 1000000) :
    Calls Tryz.prog 91 #[va, vb] w (NewX w0 F (xorB xs ys)) := by
 obtain ⟨a, ca, rfl, _, hsa⟩ := ha.slice
 obtain ⟨b, cb, rfl, _, hsb⟩ := hb.slice
 obtain ⟨ga, oa, rfl⟩ := hsa h0
 obtain ⟨gb', ob, rfl⟩ := hsb (by omega)
 obtain ⟨n, hn⟩ : ∃ n, n = xs.length := ⟨_, rfl⟩
 obtain ⟨m, hm⟩ : ∃ m, m = ys.length := ⟨_, rfl⟩
 rw [← hm] at hb ⊢
 rw [← hn] at ha ⊢
 have hnb : (n : Int) ≤ 1000000 := by omega
 have hmb : (m : Int) ≤ 1000000 := by omega
 have hmin : (if (n : Int) < (m : Int) then (n : Int) else (m : Int)) = n := by split <;> omega
 have hmin2 : (if (m : Int) < (n : Int) then (m : Int) else (n : Int)) = n := by split <;> omega
 have hmin3 : (if n < m then (n : Int) else (m : Int)) = n := by split <;> omega
 have hmin4 : (if m < n then (m : Int) else (n : Int)) = n := by split <;> omega
 obtain ⟨T, hT⟩ : ∃ T, T = xorB xs ys := ⟨_, rfl⟩
 have hTl := Lib.hid (show T.length = n by rw [hT, xorB_length, hn]; omega)
 have HTG := Lib.hid (fun i (hi : i < n) => (show gb T i = gb xs i ^^^ gb ys i by
  rw [hT]
  refine gb_of ?_
  unfold xorB
  rw [List.getElem?_zipWith, gb_get (by omega), gb_get (by omega)]))
 rw [← hT]
 have HN := Lib.hid hn
 have hln : n ≤ m := by omega
 have hlnI : (n : Int) ≤ m := by omega
 have HL := Lib.hid hm
 clear hm
 have HA := Lib.hid ha
 have HBB := Lib.hid hb
 have hn0 : 0 < n := by omega
 clear hT hn hl hsa hsb h0 hsm ha hb
 go_enter Tryz.func91, Tryz.ntmps91
 go_wp2_with ((with_reducible refine wpList_op rfl ?_); intro _ hK; refine wp_lmake el_u8 33 _ _ rfl under_bytes8 info_u8w (x := (0 : BitVec 8)) rfl rfl (n := n) (cap := n) rfl rfl (Nat.le_refl _) (by simp only [maxLen]; omega) (by omega) H (fun B w' (H : At w0 (lrow 5 1 c8 (.slice (some ⟨B, 0, none⟩) n n) (zs n) :: F) w') => hK _ _ ?_))
 go_loopw [15] (fun i wr => ∃ i' : Nat, i' ≤ n ∧ i = .int .i64 i' ∧ At w0 (lrow 5 1 c8 (.slice (some ⟨B, 0, none⟩) n n) (upto T n i') :: F) wr) (fun i _ => n - (intOf i).toNat)
 case atStart => exact ⟨0, by omega, rfl, by rw [upto_zero]; exact H⟩
 case round =>
  clear H
  obtain ⟨j, hj, rfl, H⟩ := hrel
  by_cases hlt : (j : Int) < n
  · have hjx : xs[j]? = some (gb xs j) := gb_get (by rw [← HN.out]; omega)
    have hjy : ys[j]? = some (gb ys j) := gb_get (by rw [← HL.out]; omega)
    have hz := HTG.out j (by omega)
    obtain ⟨x, hx⟩ : ∃ x, x = gb xs j := ⟨_, rfl⟩
    obtain ⟨y, hy⟩ : ∃ y, y = gb ys j := ⟨_, rfl⟩
    rw [← hx] at hjx hz
    rw [← hy] at hjy hz
    have hca : ∀ wr, At w0 F wr → wr.cell? ⟨ga, oa + j, none⟩ = some (.int .u8 (iv x)) := fun wr Hr => by
     have := HA.out.cell el_u8 Hr (j := 0) hjx (u := .int .u8 (iv x)) rfl
     simpa using this
    have hcb : ∀ wr, At w0 F wr → wr.cell? ⟨gb', ob + j, none⟩ = some (.int .u8 (iv y)) := fun wr Hr => by
     have := HBB.out.cell el_u8 Hr (j := 0) hjy (u := .int .u8 (iv y)) rfl
     simpa using this
    obtain ⟨z, hzz⟩ : ∃ z, z = x ^^^ y := ⟨_, rfl⟩
    rw [← hzz] at hz
    have e1 : bits .xor .u8 (iv x) (iv y) = iv z := by rw [hzz]; exact iv_xor8 x y
    have ew : IntKind.i64.wrap (j : Int) = j := by rw [IntKind.wrap_i64]; omega
    have hjn : j < n := by omega
    have hjm : j < m := by omega
    have hul : (upto T n j).length = n := upto_length hTl.out hj
    have hst : (upto T n j).set j z = upto T n (j + 1) := by rw [← hz]; exact upto_set hTl.out hjn
    have hul2 : (upto T n (j + 1)).length = n := upto_length hTl.out (by omega)
    have HUL := Lib.hid hul
    have HUL2 := Lib.hid hul2
    have HST := Lib.hid hst
    clear hx hy hzz hz hjx hjy hul hul2 hst
    go_wp2_with fail
    refine wpM_begin [12] ((At w0 (lrow 5 1 c8 (.slice (some ⟨B, 0, none⟩) n n) (upto T n j) :: F))) [(0, 2), (1, 2), (2, 2), (3, 2), (4, 2), (5, 1), (6, 2), (7, 2), (8, 2), (9, 1), (10, 2), (11, 2), (12, 0)] rfl (by kernel_rfl) (by kernel_rfl) ((H.drew)) ?_
    intro ops hOps hS
    replace H := H.drew
    iterate 5 refine fm hOps ?_
    refine tm hOps hS (fun w hw => hca _ hw.tail) ?_
    iterate 3 refine fm hOps ?_
    refine tm hOps hS (fun w hw => hcb _ hw.tail) ?_
    iterate 2 refine fm hOps ?_
    refine wpM_next hOps rfl rfl ?_
    intro K hK
    refine wp_lstore el_u8 _ _ rfl (i := j) (z := z) (v := .int .u8 (iv z)) (g := B) (off := 0) (by rw [Nat.mul_one, Nat.zero_add]; rfl) rfl rfl (by rw [HUL.out]; exact H) (by rw [HUL.out]; exact hjn) (fun w' H => ?_)
    rw [HST.out, HUL2.out] at H
    refine hK _ _ (.inl (by decide)) ?_
    clear hK K
    simp only [nrm]
    refine wpM_end ?_
    clear hOps hS ops
    go_wp2_with fail
    first
     | (refine ⟨?_, ?measure⟩; iterate 220 (try apply Exists.intro); refine ⟨?rel, rfl⟩)
     | refine ⟨?rel, ?measure⟩
    case rel => exact ⟨j + 1, by omega, by go_num, H⟩
    case measure => simp [intOf]; omega
  · obtain rfl : j = n := by omega
    rw [upto_full hTl.out] at H
    go_wp2_with fail
    go_ret
    exact ⟨B, by rw [hTl.out]; rfl, by rw [hTl.out]; exact H⟩
end Go.Proofs.YtmflbekabkainaaGreatDoor
