import Derived.Test.YtmflbekabkainaaGreatDoorQSha
import Derived.Test.YtmflbekabkainaaGreatDoorQHgB
set_option linter.unusedVariables false
set_option linter.unusedSimpArgs false
namespace Go.Proofs.YtmflbekabkainaaGreatDoor
open Go.RowKit Go.Hg
theorem iv_r3 (x : BitVec 32) : iv x / (8 : Int) = iv (x >>> 3) := iv_shr x 3
theorem iv_r10 (x : BitVec 32) : iv x / (1024 : Int) = iv (x >>> 10) := iv_shr x 10
attribute [local go_sem] iv_r3 iv_r10 iv_add32 iv_xor32 iv_or32 iv_and32 iv_not32 iv_8_32 iv_32_8 iv_nonneg
def stC (b : Bool) (h : List (BitVec 32)) (part : List (BitVec 8)) (n : Nat) : List Value := [.bool b] ++ v32 h ++ v8 part ++ [.int .u64 (n : Int)]
def strm (p : Nat) (b : Bool) (h : List (BitVec 32)) (part : List (BitVec 8)) (n : Nat) : SP := raw p (stC b h part n).toArray 254
theorem stC_length {b : Bool} {h : List (BitVec 32)} {part : List (BitVec 8)} {n : Nat} (hh : h.length = 8) (hp : part.length = 64) : (stC b h part n).length = 74 := by simp [stC, v32_length, v8_length, hh, hp]
theorem stC_h {b : Bool} {h : List (BitVec 32)} {part : List (BitVec 8)} {n : Nat} (hh : h.length = 8) {j : Nat} (hj : j < 8) : (stC b h part n)[1 + j]? = some (.int .u32 (iv (gw h j))) := by
 have hl : j < (v32 h).length := by rw [v32_length, hh]; exact hj
 have e : stC b h part n = Value.bool b :: (v32 h ++ (v8 part ++ [.int .u64 (n : Int)])) := by simp [stC]
 rw [e, Nat.add_comm 1 j, List.getElem?_cons_succ, List.getElem?_append_left hl]
 exact v32_get (by omega)
theorem stC_part {b : Bool} {h : List (BitVec 32)} {part : List (BitVec 8)} {n : Nat} (hh : h.length = 8) (hp : part.length = 64) {j : Nat} (hj : j < 64) : (stC b h part n)[9 + j]? = some (.int .u8 (iv (gb part j))) := by
 unfold stC
 rw [List.append_assoc, List.getElem?_append_right (by simp [v32_length, hh] <;> omega), List.getElem?_append_left (by simp [v32_length, v8_length, hh, hp] <;> omega)]
 have := v8_get (bs := part) (i := j) (by omega)
 have e : 9 + j - ([Value.bool b] ++ v32 h).length = j := by simp [v32_length, hh]
 rw [e]
 exact this
theorem stC_at {b : Bool} {h : List (BitVec 32)} {part : List (BitVec 8)} {n : Nat} (hh : h.length = 8) (hp : part.length = 64) (j : Nat) {k : Nat} (hk : k = 9 + j) (hj : j < 64) : (stC b h part n)[k]? = some (.int .u8 (iv (gb part j))) := by
 subst hk
 exact stC_part hh hp hj
theorem stC_n {b : Bool} {h : List (BitVec 32)} {part : List (BitVec 8)} {n : Nat} (hh : h.length = 8) (hp : part.length = 64) : (stC b h part n)[73]? = some (.int .u64 (n : Int)) := by
 unfold stC
 rw [List.getElem?_append_right (by simp [v32_length, v8_length, hh, hp])]
 have e : 73 - ([Value.bool b] ++ v32 h ++ v8 part).length = 0 := by simp [v32_length, v8_length, hh, hp]
 rw [e]
 rfl
theorem at_raw {w0 w : World} {F : List SP} (H : At w0 F w) (k : Nat) {b : Nat} {cs : List Value} {t : TypeId} (hk : F[k]? = some (raw b cs.toArray t)) {j : Nat} {v : Value} (hv : cs[j]? = some v) : w.cell? ⟨b, j, none⟩ = some v := by
 rw [raw_cell (H.heap k hk), List.getElem?_toArray]
 exact hv
theorem part_from (w : World) (p a : Nat) (h : a < 64) : (Instr.sliceAt 200 (.pointer (some ⟨p, 9, none⟩)) (some (.int .i64 (a : Int))) none none).run Tryz.prog w = .ok (.slice (some ⟨p, 9 + a, none⟩) (64 - a) (64 - a)) w := by
 have hal : Tryz.prog.arrayLen 200 = 64 := by kernel_rfl
 rw [run_sliceAt_array_l w 200 ⟨p, 9, none⟩ (by kernel_rfl) .i64 (a : Int) (by omega) (by rw [hal]; omega), hal]
 have hsz : (sizeOf (Tryz.prog.elem 200)).run Tryz.prog w = .ok 1 w := by kernel_rfl
 rw [hsz]
 have : ¬ (64 = a) := by omega
 simp [slicedAt, this, Addr.add_lit]
theorem under_w64 : Tryz.prog.underlying 280 = some (.array 64 36) := by kernel_rfl
set_option maxRecDepth 10000 in
set_option maxHeartbeats 1000000 in
theorem spread_c {w0 w : World} {F : List SP} {p n : Nat} {b : Bool} {h : List (BitVec 32)} {part : List (BitVec 8)} (H : At w0 (strm p b h part n :: F) w) (hh : h.length = 8) (hp : part.length = 64) :
    Calls Tryz.prog 162 #[.pointer (some ⟨p, 0, none⟩)] w fun e w' => e = .returned (.agg (v32 (wsOf part 64)).toArray) ∧ At w0 (strm p b h part n :: F) w' := by
 have s24 : ∀ x : BitVec 32, IntKind.u32.wrap (iv x * (16777216 : Int)) = iv (x <<< 24) := fun x => iv_shl32 x 24
 have s16 : ∀ x : BitVec 32, IntKind.u32.wrap (iv x * (65536 : Int)) = iv (x <<< 16) := fun x => iv_shl32 x 16
 have s8 : ∀ x : BitVec 32, IntKind.u32.wrap (iv x * (256 : Int)) = iv (x <<< 8) := fun x => iv_shl32 x 8
 have info_w64 : (Tryz.prog.info? 280).map (fun i => (i.zero, i.size, i.bytes)) = some (some (.agg (v32 (List.replicate 64 0)).toArray), 64, 256) := by kernel_rfl
 go_enter Tryz.func162, Tryz.ntmps162
 go_wp2_with ((with_reducible refine wpList_op rfl ?_); intro _ hK; refine wp_alloc_sl 280 rfl info_w64 H (fun W w' (H : At w0 (raw W (v32 (List.replicate 64 0)).toArray 280 :: strm p b h part n :: F) w') _ => hK _ _ ?_))
 go_loopw [9] (fun i wr => ∃ i' : Nat, i' ≤ 64 ∧ i = .int .i64 i' ∧ At w0 (raw W (v32 (wsP part i')).toArray 280 :: strm p b h part n :: F) wr) (fun i _ => 64 - (intOf i).toNat)
 case atStart => exact ⟨0, by omega, rfl, H⟩
 case round =>
  clear H
  obtain ⟨i, hi, rfl, H⟩ := hrel
  by_cases h64 : (i : Int) < 64
  · by_cases h16 : (i : Int) < 16
    · obtain ⟨a, ha⟩ : ∃ a, a = 4 * i := ⟨_, rfl⟩
      have e1 : 4 * (i : Int) = (a : Int) := by omega
      have e2 : IntKind.i64.wrap (a : Int) = a := by rw [IntKind.wrap_i64]; omega
      have ps := fun w => part_from w p a (by omega)
      have l0 : (0 : Int) < ((64 - a : Nat) : Int) := by omega
      have l1 : (1 : Int) < ((64 - a : Nat) : Int) := by omega
      have l2 : (2 : Int) < ((64 - a : Nat) : Int) := by omega
      have l3 : (3 : Int) < ((64 - a : Nat) : Int) := by omega
      have hb0 : (stC b h part n)[9 + a]? = some (.int .u8 (iv (gb part a))) := stC_at hh hp a (by omega) (by omega)
      have hb1 : (stC b h part n)[9 + a + 1]? = some (.int .u8 (iv (gb part (a + 1)))) := stC_at hh hp (a + 1) (by omega) (by omega)
      have hb2 : (stC b h part n)[9 + a + 2]? = some (.int .u8 (iv (gb part (a + 2)))) := stC_at hh hp (a + 2) (by omega) (by omega)
      have hb3 : (stC b h part n)[9 + a + 3]? = some (.int .u8 (iv (gb part (a + 3)))) := stC_at hh hp (a + 3) (by omega) (by omega)
      have hx : wnext part (wsOf part i) i = be4 (gb part a) (gb part (a + 1)) (gb part (a + 2)) (gb part (a + 3)) := by rw [ha]; unfold wnext; rw [if_pos (by omega)]
      have m0 : 0 < 64 - a := by omega
      have m1 : 1 < 64 - a := by omega
      have m2 : 2 < 64 - a := by omega
      have m3 : 3 < 64 - a := by omega
      generalize 64 - a = m at ps l0 l1 l2 l3 m0 m1 m2 m3
      have HX := Lib.hid hx
      clear hx ha
      go_wp2_with fail
      refine wpM_begin [24] ((At w0 (raw W (v32 (wsP part i)).toArray 280 :: strm p b h part n :: F))) [(0, 2), (1, 2), (2, 2), (3, 1), (4, 2), (5, 2), (6, 2), (7, 2), (8, 1), (9, 2), (10, 2), (11, 2), (12, 2), (13, 2), (14, 1), (15, 2), (16, 2), (17, 2), (18, 2), (19, 2), (20, 1), (21, 2), (22, 2), (23, 2), (24, 0)] rfl (by kernel_rfl) (by kernel_rfl) ((H.drew)) ?_
      intro ops hOps hS
      replace H := H.drew
      iterate 3 refine fm hOps ?_
      refine tm hOps hS (fun w hw => at_raw hw 1 rfl hb0) ?_
      iterate 4 refine fm hOps ?_
      refine tm hOps hS (fun w hw => at_raw hw 1 rfl hb1) ?_
      iterate 5 refine fm hOps ?_
      refine tm hOps hS (fun w hw => at_raw hw 1 rfl hb2) ?_
      iterate 5 refine fm hOps ?_
      refine tm hOps hS (fun w hw => at_raw hw 1 rfl hb3) ?_
      iterate 3 refine fm hOps ?_
      refine wpM_next hOps rfl rfl ?_
      intro K hK
      refine wp_st32 (v := be4 (gb part a) (gb part (a + 1)) (gb part (a + 2)) (gb part (a + 3))) 36 _ _ rfl rfl rfl (by kernel_rfl) 0 H rfl (by rw [wsP_length _ hi]; omega) (fun w' H => ?_)
      rw [← HX.out, wsP_succ part (by omega)] at H
      refine hK _ _ (.inl (by decide)) ?_
      clear hK K
      simp only [nrm]
      refine wpM_end ?_
      clear hOps hS ops
      go_wp2_with fail
      first
       | (refine ⟨?_, ?measure⟩; iterate 220 (try apply Exists.intro); refine ⟨?rel, rfl⟩)
       | refine ⟨?rel, ?measure⟩
      case rel => exact ⟨i + 1, by omega, by go_num, H⟩
      case measure => simp [intOf]; omega
    · obtain ⟨a, ha⟩ : ∃ a, a = i - 16 := ⟨_, rfl⟩
      have e15 : (i : Int) - 15 = ((a + 1 : Nat) : Int) := by omega
      have e2 : (i : Int) - 2 = ((a + 14 : Nat) : Int) := by omega
      have e7 : (i : Int) - 7 = ((a + 9 : Nat) : Int) := by omega
      have e16 : (i : Int) - 16 = (a : Int) := by omega
      have hx : wnext part (wsOf part i) i = whigh (gw (wsOf part i) (a + 14)) + gw (wsOf part i) (a + 9) + wlow (gw (wsOf part i) (a + 1)) + gw (wsOf part i) a := by
       unfold wnext
       rw [if_neg (by omega), show i - 2 = a + 14 by omega, show i - 7 = a + 9 by omega, show i - 15 = a + 1 by omega, show i - 16 = a by omega]
      have cg : ∀ j, j < i → (v32 (wsP part i))[j]? = some (.int .u32 (iv (gw (wsOf part i) j))) := fun j hj => by rw [v32_get (by rw [wsP_length _ hi]; omega), wsP_gw part hj]
      have c1 := cg (a + 1) (by omega)
      have c2 := cg (a + 14) (by omega)
      have c3 := cg (a + 9) (by omega)
      have c4 := cg a (by omega)
      obtain ⟨x, hxx⟩ : ∃ x, x = gw (wsOf part i) (a + 1) := ⟨_, rfl⟩
      obtain ⟨y, hyy⟩ : ∃ y, y = gw (wsOf part i) (a + 14) := ⟨_, rfl⟩
      obtain ⟨z, hzz⟩ : ∃ z, z = gw (wsOf part i) (a + 9) := ⟨_, rfl⟩
      obtain ⟨u, huu⟩ : ∃ u, u = gw (wsOf part i) a := ⟨_, rfl⟩
      rw [← hxx, ← hyy, ← hzz, ← huu] at hx
      rw [← hxx] at c1
      rw [← hyy] at c2
      rw [← hzz] at c3
      rw [← huu] at c4
      have HX := Lib.hid hx
      have b1 : ((a + 1 : Nat) : Int) < 64 := by omega
      have b2 : ((a + 14 : Nat) : Int) < 64 := by omega
      have b3 : ((a + 9 : Nat) : Int) < 64 := by omega
      have b4 : (a : Int) < 64 := by omega
      obtain ⟨a1, ha1⟩ : ∃ a1, a1 = a + 1 := ⟨_, rfl⟩
      obtain ⟨a14, ha14⟩ : ∃ a1, a1 = a + 14 := ⟨_, rfl⟩
      obtain ⟨a9, ha9⟩ : ∃ a1, a1 = a + 9 := ⟨_, rfl⟩
      have w1 : IntKind.i64.wrap (a1 : Int) = a1 := by rw [IntKind.wrap_i64]; omega
      have w14 : IntKind.i64.wrap (a14 : Int) = a14 := by rw [IntKind.wrap_i64]; omega
      have w9 : IntKind.i64.wrap (a9 : Int) = a9 := by rw [IntKind.wrap_i64]; omega
      have w16 : IntKind.i64.wrap (a : Int) = a := by rw [IntKind.wrap_i64]; omega
      rw [← ha1] at e15 c1 b1
      rw [← ha14] at e2 c2 b2
      rw [← ha9] at e7 c3 b3
      clear hx hxx hyy hzz huu cg ha ha1 ha14 ha9
      go_wp2_with fail
      refine wpL_begin 9 (At w0 (raw W (v32 (wsP part i)).toArray 280 :: strm p b h part n :: F)) [(0, true), (1, true), (2, true), (3, true), (4, true), (5, true), (6, true), (7, true), (8, false), (9, false)] rfl (by kernel_rfl) (by kernel_rfl) ((H.drew)) ?_
      intro ops hOps hS
      replace H := H.drew
      iterate 3 refine fl hOps hS ?_
      refine tl hOps hS (fun w hw => at_raw hw 0 rfl c1) ?_
      iterate 3 refine fl hOps hS ?_
      refine tl hOps hS (fun w hw => at_raw hw 0 rfl c2) ?_
      refine wpL_next hOps rfl rfl ?_
      intro K hK
      refine wp_run rfl ?_
      have hS := (H)
      refine hK _ _ hS ?_
      clear hK K
      simp only [nrm]
      refine wpL_last hOps rfl rfl ?_
      intro K hK
      refine wp_run rfl ?_
      refine hK _ _ ?_
      clear hK K hOps hS ops
      simp only [nrm]
      go_wp2_with fail
      refine (turned_c x 7 (by omega) (by omega) _).mono ?_; rintro e w' ⟨rfl, rfl⟩
      go_wp2_with fail
      refine (turned_c x 18 (by omega) (by omega) _).mono ?_; rintro e w' ⟨rfl, rfl⟩
      go_wp2_with fail
      refine (turned_c y 17 (by omega) (by omega) _).mono ?_; rintro e w' ⟨rfl, rfl⟩
      go_wp2_with fail
      refine (turned_c y 19 (by omega) (by omega) _).mono ?_; rintro e w' ⟨rfl, rfl⟩
      go_wp2_with fail
      refine wpL_begin 15 (At w0 (raw W (v32 (wsP part i)).toArray 280 :: strm p b h part n :: F)) [(0, true), (1, true), (2, true), (3, true), (4, true), (5, true), (6, true), (7, true), (8, true), (9, true), (10, true), (11, true), (12, true), (13, true), (14, true), (15, false)] rfl (by kernel_rfl) (by kernel_rfl) ((H.drew)) ?_
      intro ops hOps hS
      replace H := H.drew
      iterate 5 refine fl hOps hS ?_
      refine tl hOps hS (fun w hw => at_raw hw 0 rfl c3) ?_
      iterate 6 refine fl hOps hS ?_
      refine tl hOps hS (fun w hw => at_raw hw 0 rfl c4) ?_
      iterate 2 refine fl hOps hS ?_
      refine wpL_last hOps rfl rfl ?_
      intro K hK
      refine wp_st32 (v := whigh y + z + wlow x + u) 36 _ _ rfl rfl rfl (by kernel_rfl) 0 H rfl (by rw [wsP_length _ hi]; omega) (fun w' H => ?_)
      rw [← HX.out, wsP_succ part (by omega)] at H
      refine hK _ _ ?_
      clear hK K hOps hS ops
      simp only [nrm]
      go_wp2_with fail
      first
       | (refine ⟨?_, ?measure⟩; iterate 220 (try apply Exists.intro); refine ⟨?rel, rfl⟩)
       | refine ⟨?rel, ?measure⟩
      case rel => exact ⟨i + 1, by omega, by go_num, H⟩
      case measure => simp [intOf]; omega
  · obtain rfl : i = 64 := by omega
    have hsz : (Tryz.prog.info? 280).map (·.size) = some (v32 (wsP part 64)).length := by rw [v32_length, wsP_length _ (Nat.le_refl _)]; kernel_rfl
    go_wp2_with ((with_reducible refine wpList_op rfl ?_); intro _ hK; first
     | (refine wp_mid 280 _ rfl rfl (v32 (wsP part 64)) (by kernel_rfl) hsz (fun j v hv => by rw [Nat.zero_add]; exact at_raw H 0 rfl hv) (hK _ _ ?_))
     | (refine wp_store_row_sl 280 _ _ rfl rfl (cells := (v32 (wsP part 64)).toArray) rfl (by simpa using hsz) (fun u hu => v32_one _ u (by simpa using hu)) 0 H rfl rfl (fun w' (H : At w0 (raw W (v32 (wsP part 64)).toArray 280 :: strm p b h part n :: F) w') => hK _ _ ?_)))
    refine bodyPost_ret (v := .agg (v32 (wsP part 64)).toArray) (results_cell_row rfl _ _ W _ _ _ _ rfl (H.heap 0 rfl) under_w64 rfl (by simpa using hsz)) rfl ⟨by rw [wsP_full], H.tail⟩
end Go.Proofs.YtmflbekabkainaaGreatDoor
