import Derived.Test.YtmflbekabkainaaGreatDoorQHmac
set_option linter.unusedVariables false
set_option linter.unusedSimpArgs false
namespace Go.Hg
open Go.RowKit
def putW (ws X : List (BitVec 32)) (p i : Nat) : List (BitVec 32) := ws.take p ++ X.take i ++ ws.drop (p + i)
theorem putW_zero (ws X : List (BitVec 32)) (p : Nat) : putW ws X p 0 = ws := by simp [putW]
theorem putW_length {ws X : List (BitVec 32)} {p i : Nat} (h : p + i ≤ ws.length) (hi : i ≤ X.length) : (putW ws X p i).length = ws.length := by simp [putW]; omega
theorem putW_set {ws X : List (BitVec 32)} {p i : Nat} (h : p + i < ws.length) (hi : i < X.length) : (putW ws X p i).set (p + i) (gw X i) = putW ws X p (i + 1) := by
 have hl : (ws.take p ++ X.take i).length = p + i := by rw [List.length_append, List.length_take, List.length_take]; omega
 unfold putW
 rw [List.set_append_right _ _ (by omega), hl, Nat.sub_self, List.drop_eq_getElem_cons h, List.set_cons_zero, List.take_add_one, gw_get hi]
 simp [List.append_assoc, Nat.add_assoc]
theorem wordsL_get (bs : List (BitVec 8)) {i : Nat} (h : i < bs.length / 4) : gw (wordsL bs) i = le4 (gb bs (4 * i)) (gb bs (4 * i + 1)) (gb bs (4 * i + 2)) (gb bs (4 * i + 3)) := gw_of (by
 unfold wordsL
 rw [List.getElem?_map, List.getElem?_range h]
 rfl)
def stg (s : List (BitVec 32)) (a b c d : Nat) : Nat → List (BitVec 32)
 | 0 => s
 | 1 => halfQ s a b c d 16 12
 | _ => quarterQ s a b c d
theorem stg_length (s : List (BitVec 32)) (a b c d : Nat) : ∀ i, (stg s a b c d i).length = s.length
 | 0 => rfl
 | 1 => halfQ_length _ _ _ _ _ _ _
 | _ + 2 => quarterQ_length _ _ _ _ _
end Go.Hg
namespace Go.Proofs.YtmflbekabkainaaGreatDoor
open Go.RowKit Go.Hg
attribute [local go_sem] iv_add32 iv_xor32 iv_or32 iv_8_32 iv_nonneg
theorem info_state : (Tryz.prog.info? 260).map (fun i => (i.zero, i.size, i.bytes)) = some (some (.agg (v32 (List.replicate 16 0)).toArray), 16, 64) := by kernel_rfl
theorem under_state : Tryz.prog.underlying 260 = some (.array 16 36) := by kernel_rfl
set_option maxRecDepth 10000 in
set_option maxHeartbeats 1000000 in
theorem load_c {w0 w : World} {F : List SP} {S p k : Nat} {ws : List (BitVec 32)} {v : Value} {bs : List (BitVec 8)} (H : At w0 (raw S (v32 ws).toArray 260 :: F) w) (hv : SeeB w0 F v bs) (hw : ws.length = 16) (hk : bs.length = 4 * k) (hp : p + k ≤ 16) :
    Calls Tryz.prog 147 #[.pointer (some ⟨S, 0, none⟩), .int .i64 p, v] w fun e w' => e = .returned (.tuple #[]) ∧ At w0 (raw S (v32 (putW ws (wordsL bs) p k)).toArray 260 :: F) w' := by
 have s24 : ∀ x : BitVec 32, IntKind.u32.wrap (iv x * (16777216 : Int)) = iv (x <<< 24) := fun x => iv_shl32 x 24
 have s16 : ∀ x : BitVec 32, IntKind.u32.wrap (iv x * (65536 : Int)) = iv (x <<< 16) := fun x => iv_shl32 x 16
 have s8 : ∀ x : BitVec 32, IntKind.u32.wrap (iv x * (256 : Int)) = iv (x <<< 8) := fun x => iv_shl32 x 8
 obtain ⟨a, cap, rfl, hcap, _⟩ := hv.slice
 obtain ⟨n, hn⟩ : ∃ n, n = bs.length := ⟨_, rfl⟩
 rw [← hn] at hv hcap
 rw [← hn]
 have hnk : (n : Int) / 4 = k := by omega
 have hnb : (n : Int) ≤ 64 := by omega
 have hkb : (k : Int) ≤ 16 := by omega
 have hpb : (p : Int) ≤ 16 := by omega
 have HN := Lib.hid hn
 have HK := Lib.hid hk
 have HW := Lib.hid hw
 have HP := Lib.hid hp
 have HV := Lib.hid hv
 have hwl := Lib.hid (show (wordsL bs).length = k by rw [wordsL_length]; omega)
 obtain ⟨X, hX⟩ : ∃ X, X = wordsL bs := ⟨_, rfl⟩
 rw [← hX] at hwl
 rw [← hX]
 have HX := Lib.hid hX
 clear hn hk hw hp hcap hv hX
 go_enter Tryz.func147, Tryz.ntmps147
 go_wp2_with fail
 go_loopw [11] (fun i wr => ∃ i' : Nat, i' ≤ k ∧ i = .int .i64 i' ∧ At w0 (raw S (v32 (putW ws X p i')).toArray 260 :: F) wr) (fun i _ => k - (intOf i).toNat)
 case atStart => exact ⟨0, by omega, rfl, by rw [putW_zero]; exact H⟩
 case round =>
  clear H
  obtain ⟨i, hi, rfl, H⟩ := hrel
  by_cases hlt : (i : Int) < k
  · obtain ⟨c, hc⟩ : ∃ c, c = 4 * i := ⟨_, rfl⟩
    have ec : 4 * (i : Int) = c := by omega
    obtain ⟨v', hv', hrun⟩ := HV.out.from_ el_u8 under_bytes elem_bytes (k := c) (by have := HK.out; omega)
    obtain ⟨a', cap', rfl, hcap', hsome'⟩ := hv'.slice
    have hl4 : 4 ≤ (bs.drop c).length := by rw [List.length_drop]; have := HK.out; omega
    obtain ⟨g, off, rfl⟩ := hsome' (by omega)
    obtain ⟨m, hm⟩ : ∃ m, m = (bs.drop c).length := ⟨_, rfl⟩
    rw [← hm] at hv' hrun hl4
    have m0 : 0 < m := by omega
    have m1 : 1 < m := by omega
    have m2 : 2 < m := by omega
    have m3 : 3 < m := by omega
    have l0 : (0 : Int) < m := by omega
    have l1 : (1 : Int) < m := by omega
    have l2 : (2 : Int) < m := by omega
    have l3 : (3 : Int) < m := by omega
    have hcell : ∀ j, j < 4 → ∀ wr, At w0 F wr → wr.cell? ⟨g, off + j, none⟩ = some (.int .u8 (iv (gb bs (c + j)))) := fun j hj wr Hr => by
     have hx : (bs.drop c)[j]? = some (gb bs (c + j)) := by rw [List.getElem?_drop, gb_get (by have := HK.out; omega)]
     have := hv'.cell el_u8 Hr (j := 0) hx (u := .int .u8 (iv (gb bs (c + j)))) rfl
     simpa using this
    have c0 := hcell 0 (by omega)
    have c1 := hcell 1 (by omega)
    have c2 := hcell 2 (by omega)
    have c3 := hcell 3 (by omega)
    simp only [Nat.add_zero] at c0
    have hx : gw X i = le4 (gb bs c) (gb bs (c + 1)) (gb bs (c + 2)) (gb bs (c + 3)) := by rw [HX.out, wordsL_get bs (by have := HK.out; omega), hc]
    generalize gb bs c = b0 at c0 hx
    generalize gb bs (c + 1) = b1 at c1 hx
    generalize gb bs (c + 2) = b2 at c2 hx
    generalize gb bs (c + 3) = b3 at c3 hx
    have hst : (putW ws X p i).set (p + i) (le4 b0 b1 b2 b3) = putW ws X p (i + 1) := by rw [← hx]; exact putW_set (by rw [HW.out]; have := HP.out; omega) (by rw [hwl.out]; omega)
    obtain ⟨q, hq⟩ : ∃ q, q = p + i := ⟨_, rfl⟩
    have eq' : (p : Int) + i = q := by omega
    have hq16 : (q : Int) < 16 := by have := HP.out; omega
    have ew : IntKind.i64.wrap (q : Int) = q := by rw [IntKind.wrap_i64]; omega
    rw [← hq] at hst
    have HST := Lib.hid hst
    have hql := Lib.hid (show q < (putW ws X p i).length by rw [putW_length (by rw [HW.out]; have := HP.out; omega) (by rw [hwl.out]; omega), HW.out]; omega)
    clear hv' hcell hx hst hq hm hcap' hsome' hc
    go_wp2_with ((with_reducible refine wpList_op rfl ?_); intro _ hK; refine wp_slice 33 _ _ _ _ rfl (hrun _) (hK _ _ ?_))
    refine wpM_begin [28] ((At w0 (raw S (v32 (putW ws X p i)).toArray 260 :: F))) [(0, 2), (1, 2), (2, 2), (3, 2), (4, 2), (5, 2), (6, 1), (7, 2), (8, 2), (9, 2), (10, 1), (11, 2), (12, 2), (13, 2), (14, 2), (15, 2), (16, 1), (17, 2), (18, 2), (19, 2), (20, 2), (21, 2), (22, 1), (23, 2), (24, 2), (25, 2), (26, 2), (27, 2), (28, 0)] rfl (by kernel_rfl) (by kernel_rfl) ((H.drew)) ?_
    intro ops hOps hS
    replace H := H.drew
    iterate 6 refine fm hOps ?_
    refine tm hOps hS (fun w hw => c0 _ hw.tail) ?_
    iterate 3 refine fm hOps ?_
    refine tm hOps hS (fun w hw => c1 _ hw.tail) ?_
    iterate 5 refine fm hOps ?_
    refine tm hOps hS (fun w hw => c2 _ hw.tail) ?_
    iterate 5 refine fm hOps ?_
    refine tm hOps hS (fun w hw => c3 _ hw.tail) ?_
    iterate 5 refine fm hOps ?_
    refine wpM_next hOps rfl rfl ?_
    intro K hK
    refine wp_st32 36 _ _ rfl (i := q) (v := le4 b0 b1 b2 b3) rfl rfl (by kernel_rfl) 0 H rfl hql.out (fun w' H => ?_)
    rw [HST.out] at H
    refine hK _ _ (.inl (by decide)) ?_
    clear hK K
    simp only [nrm]
    refine wpM_end ?_
    clear hOps hS ops
    replace H : At w0 (raw S (v32 (putW ws X p (i + 1))).toArray 260 :: F) w' := H
    go_wp2_with fail
    first
     | (refine ⟨?_, ?measure⟩; iterate 220 (try apply Exists.intro); refine ⟨?rel, rfl⟩)
     | refine ⟨?rel, ?measure⟩
    case rel => exact ⟨i + 1, by omega, by go_num, H⟩
    case measure => simp [intOf]; omega
  · obtain rfl : i = k := by omega
    go_wp2_with fail
    go_end0
    exact ⟨rfl, H⟩
theorem turn_at (s : List (BitVec 32)) (a b c d : Nat) {i : Nat} (hi : i < 2) : ∃ r1 r2 : Nat, (1 ≤ r1 ∧ r1 ≤ 31) ∧ (1 ≤ r2 ∧ r2 ≤ 31) ∧ stg s a b c d (i + 1) = halfQ (stg s a b c d i) a b c d r1 r2 ∧
    ∀ w, (Instr.index 277 (.agg (turnsZ.map (Value.int .i64)).toArray) (.int .i64 (i : Int))).run Tryz.prog w = .ok (.agg #[.int .i64 (r1 : Int), .int .i64 (r2 : Int)]) w := by
 match i, hi with
 | 0, _ => exact ⟨16, 12, by omega, by omega, rfl, fun w => by kernel_rfl⟩
 | 1, _ => exact ⟨8, 7, by omega, by omega, rfl, fun w => by kernel_rfl⟩
set_option maxRecDepth 10000 in
set_option maxHeartbeats 2000000 in
theorem cmix_c {w0 w : World} {F : List SP} {S a b c d : Nat} {ws : List (BitVec 32)} (G : Glob w0) (H : At w0 (raw S (v32 ws).toArray 260 :: F) w) (hw : ws.length = 16) (ha : (a : Int) < 16) (hb : (b : Int) < 16) (hc : (c : Int) < 16) (hd : (d : Int) < 16) :
    Calls Tryz.prog 148 #[.pointer (some ⟨S, 0, none⟩), .agg #[.int .i64 a, .int .i64 b, .int .i64 c, .int .i64 d]] w fun e w' => e = .returned (.tuple #[]) ∧ At w0 (raw S (v32 (quarterQ ws a b c d)).toArray 260 :: F) w' := by
 have HW := Lib.hid hw
 have aw : IntKind.i64.wrap (a : Int) = a := by rw [IntKind.wrap_i64]; omega
 have bw : IntKind.i64.wrap (b : Int) = b := by rw [IntKind.wrap_i64]; omega
 have cw : IntKind.i64.wrap (c : Int) = c := by rw [IntKind.wrap_i64]; omega
 have dw : IntKind.i64.wrap (d : Int) = d := by rw [IntKind.wrap_i64]; omega
 have info_a2 : (Tryz.prog.info? 205).map (fun i => (i.zero, i.size, i.bytes)) = some (some (.agg #[.int .i64 0, .int .i64 0]), 2, 16) := by kernel_rfl
 obtain ⟨Z, hZ⟩ : ∃ Z, Z = quarterQ ws a b c d := ⟨_, rfl⟩
 rw [← hZ]
 have HZ := Lib.hid hZ
 have HA2 := Lib.hid info_a2
 clear hw hZ info_a2
 go_enter Tryz.func148, Tryz.ntmps148
 go_wp2_with ((with_reducible refine wpList_op rfl ?_); intro _ hK; refine wp_box_sl (v := .agg #[.int .i64 a, .int .i64 b, .int .i64 c, .int .i64 d]) 263 _ rfl rfl H (fun Q w' (H : At w0 (raw Q #[.int .i64 a, .int .i64 b, .int .i64 c, .int .i64 d] 263 :: raw S (v32 ws).toArray 260 :: F) w') _ => hK _ _ ?_))
 refine wpM_begin [] ((At w0 (raw Q #[.int .i64 a, .int .i64 b, .int .i64 c, .int .i64 d] 263 :: raw S (v32 ws).toArray 260 :: F))) [(0, 2), (1, 2), (2, 1), (3, 2), (4, 2), (5, 2), (6, 2), (7, 1), (8, 2), (9, 2), (10, 2), (11, 2), (12, 1), (13, 2), (14, 2), (15, 2), (16, 2), (17, 1), (18, 2), (19, 2), (20, 0), (21, 0), (22, 0), (23, 0)] rfl (by kernel_rfl) (by kernel_rfl) ((H.drew)) ?_
 intro ops hOps hS
 replace H := H.drew
 iterate 2 refine fm hOps ?_
 refine tm hOps hS (fun w hw => at_raw hw 0 rfl (cs := [.int .i64 a, .int .i64 b, .int .i64 c, .int .i64 d]) (j := 0) rfl) ?_
 iterate 4 refine fm hOps ?_
 refine tm hOps hS (fun w hw => at_raw hw 0 rfl (cs := [.int .i64 a, .int .i64 b, .int .i64 c, .int .i64 d]) (j := 1) rfl) ?_
 iterate 4 refine fm hOps ?_
 refine tm hOps hS (fun w hw => at_raw hw 0 rfl (cs := [.int .i64 a, .int .i64 b, .int .i64 c, .int .i64 d]) (j := 2) rfl) ?_
 iterate 4 refine fm hOps ?_
 refine tm hOps hS (fun w hw => at_raw hw 0 rfl (cs := [.int .i64 a, .int .i64 b, .int .i64 c, .int .i64 d]) (j := 3) rfl) ?_
 iterate 2 refine fm hOps ?_
 refine wpM_next hOps rfl rfl ?_
 intro K hK
 refine wp_run rfl ?_
 have hS := (hS)
 refine hK _ _ (.inr hS) ?_
 clear hK K
 simp only [nrm]
 refine wpM_next hOps rfl rfl ?_
 intro K hK
 refine wp_run rfl ?_
 have hS := (hS)
 refine hK _ _ (.inr hS) ?_
 clear hK K
 simp only [nrm]
 refine wpM_next hOps rfl rfl ?_
 intro K hK
 refine wp_run rfl ?_
 have hS := (hS)
 refine hK _ _ (.inr hS) ?_
 clear hK K
 simp only [nrm]
 refine wpM_next hOps rfl rfl ?_
 intro K hK
 refine wp_run rfl ?_
 have hS := (hS)
 refine hK _ _ (.inr hS) ?_
 clear hK K
 simp only [nrm]
 refine wpM_end ?_
 clear hOps hS ops
 replace H := H.tail
 go_wp2_with ((with_reducible refine wpList_op rfl ?_); intro _ hK; refine wp_mid 277 _ rfl rfl (turnsZ.map (Value.int .i64)) (by kernel_rfl) (by kernel_rfl) (at_range H G.turns) (hK _ _ ?_))
 go_loopw [31] (fun i wr => ∃ i' : Nat, i' ≤ 2 ∧ i = .int .i64 i' ∧ At w0 (raw S (v32 (stg ws a b c d i')).toArray 260 :: F) wr) (fun i _ => 2 - (intOf i).toNat)
 case atStart => exact ⟨0, by omega, rfl, H⟩
 case round =>
  clear H
  obtain ⟨i, hi, rfl, H⟩ := hrel
  by_cases hlt : (i : Int) < 2
  · obtain ⟨r1, r2, ⟨h11, h12⟩, ⟨h21, h22⟩, hst, hidx⟩ := turn_at ws a b c d (i := i) (by omega)
    obtain ⟨s, hs⟩ : ∃ s, s = stg ws a b c d i := ⟨_, rfl⟩
    have hsl : s.length = 16 := by rw [hs, stg_length]; exact HW.out
    rw [← hs] at H hst
    have HSL := Lib.hid hsl
    have HST := Lib.hid hst
    obtain ⟨s1, hs1⟩ : ∃ s1, s1 = s.set a (gw s a + gw s b) := ⟨_, rfl⟩
    obtain ⟨s2, hs2⟩ : ∃ s2, s2 = s1.set d (rl (gw s1 d ^^^ gw s1 a) r1) := ⟨_, rfl⟩
    obtain ⟨s3, hs3⟩ : ∃ s3, s3 = s2.set c (gw s2 c + gw s2 d) := ⟨_, rfl⟩
    obtain ⟨s4, hs4⟩ : ∃ s4, s4 = s3.set b (rl (gw s3 b ^^^ gw s3 c) r2) := ⟨_, rfl⟩
    have hfin : stg ws a b c d (i + 1) = s4 := by rw [hst, hs4, hs3, hs2, hs1]; rfl
    have HFIN := Lib.hid hfin
    have Hs1 := Lib.hid hs1
    have Hs2 := Lib.hid hs2
    have Hs3 := Lib.hid hs3
    have Hs4 := Lib.hid hs4
    clear hs hst hsl hs1 hs2 hs3 hs4 hfin
    have hr1 : (r1 : Int) ≤ 31 := by omega
    have hr2 : (r2 : Int) ≤ 31 := by omega
    go_wp2_with ((with_reducible refine wpList_op rfl ?_); intro _ hK; first
     | (refine wp_alloc_sl 205 rfl HA2.out H (fun B w' (H : At w0 (raw B #[.int .i64 0, .int .i64 0] 205 :: raw S (v32 s).toArray 260 :: F) w') _ => hK _ _ ?_))
     | (refine wp_store_row_sl 205 _ _ rfl (cells := #[.int .i64 r1, .int .i64 r2]) rfl rfl (by kernel_rfl) (by simp [Value.oneCell']) 0 H rfl rfl (fun w' (H : At w0 (raw B #[.int .i64 r1, .int .i64 r2] 205 :: raw S (v32 s).toArray 260 :: F) w') => hK _ _ ?_)))
    obtain ⟨x, hx⟩ : ∃ x, x = gw s a := ⟨_, rfl⟩
    obtain ⟨y, hy⟩ : ∃ y, y = gw s b := ⟨_, rfl⟩
    have ca : (v32 s)[a]? = some (.int .u32 (iv x)) := by rw [hx]; exact v32_get (by have := HSL.out; omega)
    have cb : (v32 s)[b]? = some (.int .u32 (iv y)) := by rw [hy]; exact v32_get (by have := HSL.out; omega)
    have hs2 : s1 = s.set a (x + y) := by rw [hx, hy]; exact Hs1.out
    have HS2 := Lib.hid hs2
    clear hx hy hs2
    go_wp2_with fail
    refine wpM_begin [8] ((At w0 (raw B #[.int .i64 r1, .int .i64 r2] 205 :: raw S (v32 s).toArray 260 :: F))) [(0, 2), (1, 2), (2, 1), (3, 2), (4, 2), (5, 1), (6, 2), (7, 2), (8, 0)] rfl (by kernel_rfl) (by kernel_rfl) ((H.drew)) ?_
    intro ops hOps hS
    replace H := H.drew
    iterate 2 refine fm hOps ?_
    refine tm hOps hS (fun w hw => at_raw hw 1 rfl ca) ?_
    iterate 2 refine fm hOps ?_
    refine tm hOps hS (fun w hw => at_raw hw 1 rfl cb) ?_
    iterate 2 refine fm hOps ?_
    refine wpM_next hOps rfl rfl ?_
    intro K hK
    refine wp_st32 36 _ _ rfl (i := a) (v := x + y) rfl rfl (by kernel_rfl) 1 H rfl (by have := HSL.out; omega) (fun w' H => ?_)
    rw [← HS2.out] at H
    refine hK _ _ (.inl (by decide)) ?_
    clear hK K
    simp only [nrm]
    refine wpM_end ?_
    clear hOps hS ops
    replace H : At w0 (raw B #[.int .i64 r1, .int .i64 r2] 205 :: raw S (v32 s1).toArray 260 :: F) w' := H
    have hsl : s1.length = 16 := by rw [HS2.out, List.length_set]; exact HSL.out
    have HSL := Lib.hid hsl
    clear HS2 hsl
    obtain ⟨x, hx⟩ : ∃ x, x = gw s1 d := ⟨_, rfl⟩
    obtain ⟨y, hy⟩ : ∃ y, y = gw s1 a := ⟨_, rfl⟩
    have ca : (v32 s1)[d]? = some (.int .u32 (iv x)) := by rw [hx]; exact v32_get (by have := HSL.out; omega)
    have cb : (v32 s1)[a]? = some (.int .u32 (iv y)) := by rw [hy]; exact v32_get (by have := HSL.out; omega)
    have hs2 : s2 = s1.set d (rl (x ^^^ y) r1) := by rw [hx, hy]; exact Hs2.out
    have HS2 := Lib.hid hs2
    clear hx hy hs2
    go_wp2_with fail
    refine wpM_begin [12] ((At w0 (raw B #[.int .i64 r1, .int .i64 r2] 205 :: raw S (v32 s1).toArray 260 :: F))) [(0, 2), (1, 2), (2, 2), (3, 1), (4, 2), (5, 2), (6, 1), (7, 2), (8, 2), (9, 1), (10, 0), (11, 2), (12, 0)] rfl (by kernel_rfl) (by kernel_rfl) ((H.drew)) ?_
    intro ops hOps hS
    replace H := H.drew
    iterate 3 refine fm hOps ?_
    refine tm hOps hS (fun w hw => at_raw hw 1 rfl ca) ?_
    iterate 2 refine fm hOps ?_
    refine tm hOps hS (fun w hw => at_raw hw 1 rfl cb) ?_
    iterate 2 refine fm hOps ?_
    refine tm hOps hS (fun w hw => at_raw hw 0 rfl (cs := [.int .i64 r1, .int .i64 r2]) (j := 0) rfl) ?_
    refine wpM_next hOps rfl rfl ?_
    intro K hK
    refine wp_call _ _ _ rfl Tryz.func159 rfl (by kernel_rfl) ?_
    simp only [List.map_toArray, List.map_cons, List.map_nil, Act.eval, Array.getD_eq_getD_getElem?, List.getElem?_toArray, List.getElem?_cons_zero, List.getElem?_cons_succ, Option.getD_some]
    refine (rot_c (x ^^^ y) r1 r1 (by omega) (by omega) _).mono ?_; rintro e w' ⟨rfl, rfl⟩
    have hS := (hS)
    refine hK _ _ (.inr hS) ?_
    clear hK K
    simp only [nrm]
    refine fm hOps ?_
    refine wpM_next hOps rfl rfl ?_
    intro K hK
    refine wp_st32 36 _ _ rfl (i := d) (v := rl (x ^^^ y) r1) rfl rfl (by kernel_rfl) 1 H rfl (by have := HSL.out; omega) (fun w' H => ?_)
    rw [← HS2.out] at H
    refine hK _ _ (.inl (by decide)) ?_
    clear hK K
    simp only [nrm]
    refine wpM_end ?_
    clear hOps hS ops
    replace H : At w0 (raw B #[.int .i64 r1, .int .i64 r2] 205 :: raw S (v32 s2).toArray 260 :: F) w' := H
    have hsl : s2.length = 16 := by rw [HS2.out, List.length_set]; exact HSL.out
    have HSL := Lib.hid hsl
    clear HS2 hsl
    obtain ⟨x, hx⟩ : ∃ x, x = gw s2 c := ⟨_, rfl⟩
    obtain ⟨y, hy⟩ : ∃ y, y = gw s2 d := ⟨_, rfl⟩
    have ca : (v32 s2)[c]? = some (.int .u32 (iv x)) := by rw [hx]; exact v32_get (by have := HSL.out; omega)
    have cb : (v32 s2)[d]? = some (.int .u32 (iv y)) := by rw [hy]; exact v32_get (by have := HSL.out; omega)
    have hs2 : s3 = s2.set c (x + y) := by rw [hx, hy]; exact Hs3.out
    have HS2 := Lib.hid hs2
    clear hx hy hs2
    go_wp2_with fail
    refine wpM_begin [8] ((At w0 (raw B #[.int .i64 r1, .int .i64 r2] 205 :: raw S (v32 s2).toArray 260 :: F))) [(0, 2), (1, 2), (2, 1), (3, 2), (4, 2), (5, 1), (6, 2), (7, 2), (8, 0)] rfl (by kernel_rfl) (by kernel_rfl) ((H.drew)) ?_
    intro ops hOps hS
    replace H := H.drew
    iterate 2 refine fm hOps ?_
    refine tm hOps hS (fun w hw => at_raw hw 1 rfl ca) ?_
    iterate 2 refine fm hOps ?_
    refine tm hOps hS (fun w hw => at_raw hw 1 rfl cb) ?_
    iterate 2 refine fm hOps ?_
    refine wpM_next hOps rfl rfl ?_
    intro K hK
    refine wp_st32 36 _ _ rfl (i := c) (v := x + y) rfl rfl (by kernel_rfl) 1 H rfl (by have := HSL.out; omega) (fun w' H => ?_)
    rw [← HS2.out] at H
    refine hK _ _ (.inl (by decide)) ?_
    clear hK K
    simp only [nrm]
    refine wpM_end ?_
    clear hOps hS ops
    replace H : At w0 (raw B #[.int .i64 r1, .int .i64 r2] 205 :: raw S (v32 s3).toArray 260 :: F) w' := H
    have hsl : s3.length = 16 := by rw [HS2.out, List.length_set]; exact HSL.out
    have HSL := Lib.hid hsl
    clear HS2 hsl
    obtain ⟨x, hx⟩ : ∃ x, x = gw s3 b := ⟨_, rfl⟩
    obtain ⟨y, hy⟩ : ∃ y, y = gw s3 c := ⟨_, rfl⟩
    have ca : (v32 s3)[b]? = some (.int .u32 (iv x)) := by rw [hx]; exact v32_get (by have := HSL.out; omega)
    have cb : (v32 s3)[c]? = some (.int .u32 (iv y)) := by rw [hy]; exact v32_get (by have := HSL.out; omega)
    have hs2 : s4 = s3.set b (rl (x ^^^ y) r2) := by rw [hx, hy]; exact Hs4.out
    have HS2 := Lib.hid hs2
    clear hx hy hs2
    go_wp2_with fail
    refine wpM_begin [12] ((At w0 (raw B #[.int .i64 r1, .int .i64 r2] 205 :: raw S (v32 s3).toArray 260 :: F))) [(0, 2), (1, 2), (2, 2), (3, 1), (4, 2), (5, 2), (6, 1), (7, 2), (8, 2), (9, 1), (10, 0), (11, 2), (12, 0)] rfl (by kernel_rfl) (by kernel_rfl) ((H.drew)) ?_
    intro ops hOps hS
    replace H := H.drew
    iterate 3 refine fm hOps ?_
    refine tm hOps hS (fun w hw => at_raw hw 1 rfl ca) ?_
    iterate 2 refine fm hOps ?_
    refine tm hOps hS (fun w hw => at_raw hw 1 rfl cb) ?_
    iterate 2 refine fm hOps ?_
    refine tm hOps hS (fun w hw => at_raw hw 0 rfl (cs := [.int .i64 r1, .int .i64 r2]) (j := 1) rfl) ?_
    refine wpM_next hOps rfl rfl ?_
    intro K hK
    refine wp_call _ _ _ rfl Tryz.func159 rfl (by kernel_rfl) ?_
    simp only [List.map_toArray, List.map_cons, List.map_nil, Act.eval, Array.getD_eq_getD_getElem?, List.getElem?_toArray, List.getElem?_cons_zero, List.getElem?_cons_succ, Option.getD_some]
    refine (rot_c (x ^^^ y) r2 r2 (by omega) (by omega) _).mono ?_; rintro e w' ⟨rfl, rfl⟩
    have hS := (hS)
    refine hK _ _ (.inr hS) ?_
    clear hK K
    simp only [nrm]
    refine fm hOps ?_
    refine wpM_next hOps rfl rfl ?_
    intro K hK
    refine wp_st32 36 _ _ rfl (i := b) (v := rl (x ^^^ y) r2) rfl rfl (by kernel_rfl) 1 H rfl (by have := HSL.out; omega) (fun w' H => ?_)
    rw [← HS2.out] at H
    refine hK _ _ (.inl (by decide)) ?_
    clear hK K
    simp only [nrm]
    refine wpM_end ?_
    clear hOps hS ops
    replace H : At w0 (raw B #[.int .i64 r1, .int .i64 r2] 205 :: raw S (v32 s4).toArray 260 :: F) w' := H
    have hsl : s4.length = 16 := by rw [HS2.out, List.length_set]; exact HSL.out
    have HSL := Lib.hid hsl
    clear HS2 hsl
    go_wp2_with fail
    first
     | (refine ⟨?_, ?measure⟩; iterate 220 (try apply Exists.intro); refine ⟨?rel, rfl⟩)
     | refine ⟨?rel, ?measure⟩
    case rel => exact ⟨i + 1, by omega, by go_num, by rw [HFIN.out]; exact H.tail⟩
    case measure => simp [intOf]; omega
  · obtain rfl : i = 2 := by omega
    go_wp2_with fail
    go_end0
    exact ⟨rfl, by rw [HZ.out]; exact H⟩
end Go.Proofs.YtmflbekabkainaaGreatDoor
