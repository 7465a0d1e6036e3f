/-
  Chapter 11: what hops make of the places behind; what a hop is told.
-/
import Derived.Test.YtgdphamdbpkjdaaDoorPeel
import Derived.Test.YtgdphamdbpkjdaaDoorHgC
namespace Go.Hg
open Go.RowKit
theorem fillOf_snoc (h : HopD) : ∀ (l : List HopD) (b : List (BitVec 8)), fillOf (l ++ [h]) b = xorB (fillOf l b ++ zs 64) ((headsOf h.keys).drop (384 - ((fillOf l b).length + 64)))
  | [], _ => rfl
  | _ :: l, _ => fillOf_snoc h l _
theorem fillOf_length : ∀ (l : List HopD) (b : List (BitVec 8)), b.length + 64 * l.length ≤ 384 → (fillOf l b).length = b.length + 64 * l.length
  | [], _, _ => by simp [fillOf]
  | h :: l, b, hb => by
    rw [List.length_cons] at hb ⊢
    have e : (xorB (b ++ zs 64) ((headsOf h.keys).drop (384 - (b.length + 64)))).length = b.length + 64 := by
      rw [xorB_length, List.length_append, zs_length, List.length_drop, headsOf_length (show h.keys.ok from keysOf_ok _ _ _)]
      omega
    show (fillOf l _).length = _
    rw [fillOf_length l _ (by rw [e]; omega), e]
    omega
/-- Hops whose numbers are of their kinds. -/
abbrev HopO := { h : HopD // h.ok }
def hopC (h : HopO) : List Value := h.1.cells
end Go.Hg
namespace Go.Proofs.YtgdphamdbpkjdaaDoor
open Go.RowKit Go.Hg
set_option linter.unusedSimpArgs false
set_option linter.unusedVariables false
def hop0 : HopD := ⟨0, 0, zs 32, 0, zs 16, 0, 0, 0⟩
theorem info_hop : (Tryd.prog.info? 35).map (fun i => (i.zero, i.size, i.bytes)) = some (some (.agg hop0.cells.toArray), 54, 80) := by kernel_rfl
theorem el_hop : El Tryd.prog 35 54 80 hopC := ⟨⟨_, info_hop, rfl⟩, fun x => HopD.cells_length x.2.key x.2.nonce, fun x u hu => HopD.cells_one u hu⟩
theorem under_hops : Tryd.prog.underlying 22 = some (.slice 35) := by kernel_rfl
theorem under_hops' : Tryd.prog.underlying 22 = some (.slice (Tryd.prog.elem 22)) := by kernel_rfl
theorem elem_hops : Tryd.prog.elem 22 = 35 := by kernel_rfl
theorem under_int : Tryd.prog.underlying 3 = some (.int .i64) := by kernel_rfl
def fillN (hops : List HopO) (i : Nat) : List (BitVec 8) := fillOf ((hops.take i).map (·.1)) []
theorem fillN_length {hops : List HopO} {i : Nat} (hi : i ≤ hops.length) (h6 : hops.length ≤ 6) : (fillN hops i).length = 64 * i := by
  unfold fillN
  rw [fillOf_length _ _ (by rw [List.length_map, List.length_take]; simp; omega), List.length_map, List.length_take]
  simp
  omega
theorem fillN_succ {hops : List HopO} {i : Nat} {h : HopO} (hx : hops[i]? = some h) {n : Nat} (hn : n = (fillN hops i).length) : xorB (fillN hops i ++ zs 64) ((headsOf h.1.keys).drop (384 - (n + 64))) = fillN hops (i + 1) := by
  subst hn
  unfold fillN
  rw [List.take_add_one, hx]
  simp only [Option.toList_some, List.map_append, List.map_cons, List.map_nil]
  rw [fillOf_snoc]
/-- A slice with no room behind. -/
def NewF (w0 : World) (F : List SP) (bs : List (BitVec 8)) (e : Ending) (w' : World) : Prop := ∃ a, e = .returned (.slice a bs.length bs.length) ∧ At w0 (lrow 5 1 c8 (.slice a bs.length bs.length) bs :: F) w'
set_option maxRecDepth 10000 in
set_option maxHeartbeats 4000000 in
theorem filler_c {w0 w : World} {F : List SP} {v : Value} {hops : List HopO} (G : Glob w0) (H : At w0 F w) (hv : SeeL 54 hopC w0 F v hops) (h6 : hops.length ≤ 5) :
    Calls Tryd.prog 20 #[v] w (NewF w0 F (fillOf (hops.map (·.1)) [])) := by
  obtain ⟨a, cap, rfl, hcap, hsome⟩ := hv.slice
  have hfin : fillN hops hops.length = fillOf (hops.map (·.1)) [] := by unfold fillN; rw [List.take_length]
  rw [← hfin]
  have HFL := Lib.hid (fun i (hi : i ≤ hops.length) => fillN_length hi (show hops.length ≤ 6 by omega))
  have HV := Lib.hid hv
  have HS := Lib.hid hsome
  obtain ⟨m, hm⟩ : ∃ m, m = hops.length := ⟨_, rfl⟩
  rw [← hm] at HV HFL HS ⊢
  have hm5 : (m : Int) ≤ 5 := by omega
  have HM := Lib.hid hm
  clear hv hfin hsome hcap h6 hm
  go_enter Tryd.func20, Tryd.ntmps20
  go_wp2_with fail
  go_loopw [3, 8] (fun b i wr => ∃ (j : Nat) (a' : Option Addr), j ≤ m ∧ i = .int .i64 j ∧ b = .slice a' (64 * j) (64 * j) ∧ At w0 (lrow 5 1 c8 (.slice a' (64 * j) (64 * j)) (fillN hops j) :: F) wr) (fun _ i _ => m - (intOf i).toNat)
  case atStart => exact ⟨0, none, by omega, rfl, rfl, lrow_nil H c8 _ _⟩
  case round =>
    clear H
    obtain ⟨j, a', hj, rfl, rfl, H⟩ := hrel
    by_cases hlt : (j : Int) < m
    · obtain ⟨h, hx⟩ : ∃ h, hops[j]? = some h := ⟨_, List.getElem?_eq_getElem (by rw [← HM.out]; omega)⟩
      obtain ⟨b, off, rfl⟩ := HS.out (by omega)
      obtain ⟨n, hn⟩ : ∃ n, n = 64 * j := ⟨_, rfl⟩
      obtain ⟨B, hB⟩ : ∃ B, B = fillN hops j := ⟨_, rfl⟩
      have hBl := Lib.hid (show n = B.length by rw [hB, hn]; exact (HFL.out j hj).symm)
      have hnx := Lib.hid (show xorB (B ++ zs 64) ((headsOf h.1.keys).drop (384 - (n + 64))) = fillN hops (j + 1) by rw [hB]; exact fillN_succ hx (by rw [← hB]; exact hBl.out))
      have hn256 : (n : Int) ≤ 256 := by omega
      have HN := Lib.hid hn
      rw [← hn, ← hB] at H
      rw [← hn]
      obtain ⟨n2, hn2⟩ : ∃ n2, n2 = n + 64 := ⟨_, rfl⟩
      obtain ⟨k, hk⟩ : ∃ k, k = 384 - n2 := ⟨_, rfl⟩
      have hk1 : (384 - (n2 : Int)) = (k : Int) := by omega
      have hk2 : (k : Int) ≤ 320 := by omega
      have hk3 : IntKind.i64.wrap (k : Int) = (k : Int) := by rw [IntKind.wrap_i64]; omega
      have ew : IntKind.i64.wrap ((j : Int) + 1) = ((j + 1 : Nat) : Int) := by rw [IntKind.wrap_i64]; omega
      have HN2 := Lib.hid hn2
      have HK := Lib.hid hk
      have HX := Lib.hid hx
      have h54 := Lib.hid (HopD.cells_length h.2.key h.2.nonce)
      have hhok := Lib.hid (show h.1.keys.ok from keysOf_ok _ _ _)
      clear hn hB hn2 hk hx
      go_wp2_with ((with_reducible refine wpList_op rfl ?_); intro _ hK; first
        | (refine wp_mid 35 _ rfl (b := b) (off := off + j * 54) rfl h.1.cells (by kernel_rfl) (by rw [h54.out]; exact size_hop) (HV.out.elem el_hop H.tail HX.out) (hK _ _ ?_))
        | (refine wp_alloc_sl 35 rfl info_hop H (fun D w' (H : At w0 (raw D hop0.cells.toArray 35 :: lrow 5 1 c8 (.slice a' n n) B :: F) w') _ => hK _ _ ?_))
        | (refine wp_store_row_sl 35 _ _ rfl (cells := h.1.cells.toArray) rfl rfl (by rw [List.size_toArray, h54.out]; exact size_hop) (by simpa using HopD.cells_one) 0 H rfl (by rw [List.size_toArray, List.size_toArray, h54.out]; rfl) (fun w' (H : At w0 (raw D h.1.cells.toArray 35 :: lrow 5 1 c8 (.slice a' n n) B :: F) w') => hK _ _ ?_))
        | (refine wp_lzeros el_u8 50 3 under_bytes8 under_int _ _ rfl info_u8w (0 : BitVec 8) rfl rfl (n := n) (xs := B) (a0 := a') (k := 64) hBl.out rfl (see_own el_u8 H 1 hBl.out rfl) H rfl (by omega) (by simp only [maxLen]; omega) (by omega) (fun X q w' H => ?_); rw [← HN2.out] at H ⊢; replace H : At w0 (lrow 5 1 c8 (.slice (some ⟨X, 0, none⟩) n2 q) (B ++ zs 64) :: raw D h.1.cells.toArray 35 :: F) w' := H.maskR [true, true, false]; refine hK _ _ ?_)
        | (refine wp_mid 35 _ rfl (b := D) (off := 0) rfl h.1.cells (by kernel_rfl) (by rw [h54.out]; exact size_hop) (at_blk H 1 rfl) (hK _ _ ?_)))
      refine (hkeys_c G H h.2).mono ?_; rintro e w' ⟨rfl, H⟩
      go_wp2_with fail
      refine (kheads_c G H hhok.out).mono ?_; rintro e w' ⟨ha, hq, rfl, H⟩
      have hsl := Lib.hid (headsOf_length hhok.out)
      obtain ⟨Z, hZ⟩ : ∃ Z, Z = headsOf h.1.keys := ⟨_, rfl⟩
      have HZ := Lib.hid hZ
      rw [← hZ] at hsl H ⊢
      rw [hsl.out] at H ⊢
      clear hZ
      obtain ⟨v', hv', hrun⟩ := (see_own (w0 := w0) el_u8 H 0 hsl.out.symm rfl).from_ el_u8 under_bytes elem_bytes (k := k) (by rw [hsl.out]; omega)
      have HR := Lib.hid hrun
      clear hrun
      go_wp2_with ((with_reducible refine wpList_op rfl ?_); intro _ hK; (refine wp_slice 50 _ _ _ _ rfl (HR.out _) (hK _ _ ?_)))
      have hzl := Lib.hid (show (B ++ zs 64).length = n2 by rw [List.length_append, zs_length, ← hBl.out, HN2.out])
      have hdl := Lib.hid (show (Z.drop k).length = n2 by rw [List.length_drop, hsl.out, HK.out]; have := HN2.out; omega)
      have hxl := Lib.hid (show (fillN hops (j + 1)).length = n2 by rw [HFL.out (j + 1) (by omega), HN2.out, HN.out]; omega)
      have hxe := Lib.hid (show xorB (B ++ zs 64) (Z.drop k) = fillN hops (j + 1) by rw [HZ.out, HK.out, HN2.out]; exact hnx.out)
      refine (xor_c H (see_own el_u8 H 1 hzl.out.symm rfl) hv' (by rw [hzl.out]; have := HN2.out; omega) (by rw [hzl.out, hdl.out]; omega) (by rw [hdl.out]; have := HN2.out; omega)).mono ?_; rintro e w' ⟨Y, rfl, H⟩
      rw [hxe.out, hxl.out] at H
      rw [hxe.out, hxl.out]
      replace H := H.maskR [true, false, false, false]
      have hn3 : n2 = 64 * (j + 1) := by have := HN2.out; have := HN.out; omega
      go_wp2_with fail
      first
        | (refine ⟨?_, ?measure⟩; iterate 220 (try apply Exists.intro); refine ⟨?rel, rfl⟩)
        | refine ⟨?rel, ?measure⟩
      case rel => exact ⟨j + 1, _, by omega, by go_num, by rw [← hn3], by rw [← hn3]; exact H⟩
      case measure => simp [intOf]; omega
    · obtain rfl : j = m := by omega
      have hl := HFL.out j (by omega)
      go_wp2_with fail
      go_ret
      exact ⟨a', by rw [hl]; rfl, by rw [hl]; exact H⟩
set_option maxRecDepth 10000 in
set_option maxHeartbeats 4000000 in
theorem slot_none_c {w0 w : World} {F : List SP} {h : HopD} {p : PktD} {box : Nat} (H : At w0 F w) (o : h.ok) (po : p.ok) :
    Calls Tryd.prog 22 #[.agg h.cells.toArray, .pointer none, .agg p.cells.toArray, .int .u16 (box : Int)] w fun r w' => r = .returned (.agg (slotOf h none p box).cells.toArray) ∧ At w0 F w' := by
  have HO := Lib.hid o
  have PO := Lib.hid po
  have h5 := Lib.hid (HopD.at_post (h := h) o.key o.nonce 0)
  have h6 := Lib.hid (HopD.at_post (h := h) o.key o.nonce 1)
  have h7 := Lib.hid (HopD.at_post (h := h) o.key o.nonce 2)
  obtain ⟨S0, hS0⟩ : ∃ S : SlotD, S = ⟨false, 0, 0, 0, 0, zs 16, zs 16, h.lo, h.hi, h.delay⟩ := ⟨_, rfl⟩
  have HB := Lib.hid (run_buildL places_slot [(7, .int .u64 (h.lo : Int)), (8, .int .u64 (h.hi : Int)), (9, .int .u32 (h.delay : Int))] (out := S0.cells) (by rw [hS0]; rfl))
  have hS40 := Lib.hid (show S0.cells.length = 40 by rw [hS0]; rfl)
  obtain ⟨S1, hS1⟩ : ∃ S : SlotD, S = { S0 with last := true } := ⟨_, rfl⟩
  obtain ⟨S2, hS2⟩ : ∃ S : SlotD, S = slotOf h none p box := ⟨_, rfl⟩
  have hs1 := Lib.hid (show S0.cells.toArray.setIfInBounds 0 (.bool true) = S1.cells.toArray by rw [SlotD.set_last, hS1])
  have hs2 := Lib.hid (show S1.cells.toArray.setIfInBounds 2 (.int .u16 (box : Int)) = S2.cells.toArray by rw [SlotD.set_box, hS2, hS1, hS0]; rfl)
  have hs40 := Lib.hid (show S2.cells.length = 40 by rw [hS2]; rfl)
  have hs41 := Lib.hid (show S1.cells.length = 40 by rw [hS1, hS0]; rfl)
  rw [← hS2]
  clear o po hS0 hS1 hS2
  go_enter Tryd.func22, Tryd.ntmps22
  go_wp2_with ((with_reducible refine wpList_op rfl ?_); intro _ hK; first
    | (refine wp_box_sl (v := .agg h.cells.toArray) 35 _ rfl rfl H (fun A w' (H : At w0 (raw A h.cells.toArray 35 :: F) w') _ => hK _ _ ?_))
    | (refine wp_box_sl (v := .agg p.cells.toArray) 39 _ rfl rfl H (fun P w' (H : At w0 (raw P p.cells.toArray 39 :: raw A h.cells.toArray 35 :: F) w') _ => hK _ _ ?_))
    | (refine wp_alloc_sl 45 rfl info_slot H (fun O w' (H : At w0 (raw O SlotD.zero.cells.toArray 45 :: raw P p.cells.toArray 39 :: raw A h.cells.toArray 35 :: F) w') _ => hK _ _ ?_))
    | (refine wp_alloc_sl 45 rfl info_slot H (fun S w' (H : At w0 (raw S SlotD.zero.cells.toArray 45 :: raw O SlotD.zero.cells.toArray 45 :: raw P p.cells.toArray 39 :: raw A h.cells.toArray 35 :: F) w') _ => hK _ _ ?_))
    | (refine wp_get 33 _ rfl rfl (by kernel_rfl) (at_raw H 2 rfl h5.out) (hK _ _ ?_))
    | (refine wp_get 33 _ rfl rfl (by kernel_rfl) (at_raw H 2 rfl h6.out) (hK _ _ ?_))
    | (refine wp_get 30 _ rfl rfl (by kernel_rfl) (at_raw H 2 rfl h7.out) (hK _ _ ?_))
    | (refine Hg.wp_build 45 _ rfl (by rw [Array.toList_map]; rfl) (HB.out _) (hK _ _ ?_))
    | (refine wp_store_row_sl 45 _ _ rfl (b := S) (cells := S0.cells.toArray) rfl rfl (by rw [List.size_toArray, hS40.out]; exact size_slot) (by simpa using SlotD.cells_one) 0 H rfl (by rw [List.size_toArray, List.size_toArray, hS40.out]; rfl) (fun w' (H : At w0 (raw S S0.cells.toArray 45 :: raw O SlotD.zero.cells.toArray 45 :: raw P p.cells.toArray 39 :: raw A h.cells.toArray 35 :: F) w') => hK _ _ ?_))
    | (refine wp_store_sl 4 _ _ rfl (b := S) (off := 0) (v := .bool true) rfl rfl (by kernel_rfl) rfl 0 H rfl (by rw [List.size_toArray, hS40.out]; omega) (fun w' H => ?_); rw [hs1.out] at H; replace H : At w0 (raw S S1.cells.toArray 45 :: raw O SlotD.zero.cells.toArray 45 :: raw P p.cells.toArray 39 :: raw A h.cells.toArray 35 :: F) w' := H; refine hK _ _ ?_)
    | (refine wp_store_sl 43 _ _ rfl (b := S) (off := 2) (v := .int .u16 (box : Int)) rfl rfl (by kernel_rfl) rfl 0 H rfl (by rw [List.size_toArray, hs41.out]; omega) (fun w' H => ?_); rw [hs2.out] at H; replace H : At w0 (raw S S2.cells.toArray 45 :: raw O SlotD.zero.cells.toArray 45 :: raw P p.cells.toArray 39 :: raw A h.cells.toArray 35 :: F) w' := H; refine hK _ _ ?_)
    | (refine wp_mid 45 _ rfl (b := S) (off := 0) rfl S2.cells (by kernel_rfl) (by rw [hs40.out]; exact size_slot) (at_blk H 0 rfl) (hK _ _ ?_))
    | (refine wp_store_row_sl 45 _ _ rfl (b := O) (cells := S2.cells.toArray) rfl rfl (by rw [List.size_toArray, hs40.out]; exact size_slot) (by simpa using SlotD.cells_one) 1 H rfl (by rw [List.size_toArray, List.size_toArray, hs40.out]; rfl) (fun w' H => ?_); replace H : At w0 (raw O S2.cells.toArray 45 :: F) w' := H.maskR [false, true, false, false]; refine hK _ _ ?_))
  exact bodyPost_ret (v := .agg S2.cells.toArray) (results_row rfl _ rfl (at_blk H 0 rfl) (by kernel_rfl) (by rw [hs40.out]; exact size_slot)) rfl ⟨rfl, H.tail⟩
set_option maxRecDepth 10000 in
set_option maxHeartbeats 4000000 in
theorem slot_some_c {w0 w : World} {F : List SP} {h n : HopD} {p : PktD} {box N q : Nat} (H : At w0 F w) (o : h.ok) (on : n.ok) (po : p.ok) (hq : F[q]? = some (raw N n.cells.toArray 35)) :
    Calls Tryd.prog 22 #[.agg h.cells.toArray, .pointer (some ⟨N, 0, none⟩), .agg p.cells.toArray, .int .u16 (box : Int)] w fun r w' => r = .returned (.agg (slotOf h (some n) p box).cells.toArray) ∧ At w0 F w' := by
  have HO := Lib.hid o
  have PO := Lib.hid po
  have h5 := Lib.hid (HopD.at_post (h := h) o.key o.nonce 0)
  have h6 := Lib.hid (HopD.at_post (h := h) o.key o.nonce 1)
  have h7 := Lib.hid (HopD.at_post (h := h) o.key o.nonce 2)
  obtain ⟨S0, hS0⟩ : ∃ S : SlotD, S = ⟨false, 0, 0, 0, 0, zs 16, zs 16, h.lo, h.hi, h.delay⟩ := ⟨_, rfl⟩
  have HB := Lib.hid (run_buildL places_slot [(7, .int .u64 (h.lo : Int)), (8, .int .u64 (h.hi : Int)), (9, .int .u32 (h.delay : Int))] (out := S0.cells) (by rw [hS0]; rfl))
  have hS40 := Lib.hid (show S0.cells.length = 40 by rw [hS0]; rfl)
  obtain ⟨S1, hS1⟩ : ∃ S : SlotD, S = { S0 with next := n.addr } := ⟨_, rfl⟩
  obtain ⟨S2, hS2⟩ : ∃ S : SlotD, S = { S1 with who := n.who } := ⟨_, rfl⟩
  obtain ⟨S3, hS3⟩ : ∃ S : SlotD, S = { S2 with epoch := n.epoch } := ⟨_, rfl⟩
  obtain ⟨S4, hS4⟩ : ∃ S : SlotD, S = { S3 with nonce := n.nonce } := ⟨_, rfl⟩
  obtain ⟨S5, hS5⟩ : ∃ S : SlotD, S = slotOf h (some n) p box := ⟨_, rfl⟩
  have hs1 := Lib.hid (show S0.cells.toArray.setIfInBounds 1 (.int .u16 (n.addr : Int)) = S1.cells.toArray by rw [SlotD.set_next, hS1])
  have hs2 := Lib.hid (show S1.cells.toArray.setIfInBounds 3 (.int .u16 (n.who : Int)) = S2.cells.toArray by rw [SlotD.set_who, hS2])
  have hs3 := Lib.hid (show S2.cells.toArray.setIfInBounds 4 (.int .u32 (n.epoch : Int)) = S3.cells.toArray by rw [SlotD.set_epoch, hS3])
  have hs4 := Lib.hid (show S3.cells.take 5 ++ v8 n.nonce ++ S3.cells.drop (5 + (v8 n.nonce).length) = S4.cells by rw [SlotD.put_nonce _ (by rw [hS3, hS2, hS1, hS0]; exact zs_length _) _ on.nonce, hS4])
  have hs5 := Lib.hid (show S4.cells.take 21 ++ v8 p.mac ++ S4.cells.drop (21 + (v8 p.mac).length) = S5.cells by rw [SlotD.put_mac _ (by rw [hS4]; exact on.nonce) (by rw [hS4, hS3, hS2, hS1, hS0]; exact zs_length _) _ po.mac, hS5, hS4, hS3, hS2, hS1, hS0]; rfl)
  have h41 := Lib.hid (show S1.cells.length = 40 by rw [hS1, hS0]; rfl)
  have h42 := Lib.hid (show S2.cells.length = 40 by rw [hS2, hS1, hS0]; rfl)
  have h43 := Lib.hid (show S3.cells.length = 40 by rw [hS3, hS2, hS1, hS0]; rfl)
  have h44 := Lib.hid (show S4.cells.length = 40 by rw [hS4, hS3, hS2, hS1, hS0]; exact SlotD.cells_length on.nonce (zs_length _))
  have h45 := Lib.hid (show S5.cells.length = 40 by rw [hS5]; exact SlotD.cells_length on.nonce po.mac)
  have g1 := Lib.hid (HopD.at_epoch (h := n) on.key)
  have g2 := Lib.hid (HopD.part_nonce (h := n) on.key on.nonce)
  have g3 := Lib.hid (PktD.part_mac po)
  have NO := Lib.hid on
  have HQ := Lib.hid hq
  rw [← hS5]
  clear o po on hq hS0 hS1 hS2 hS3 hS4 hS5
  go_enter Tryd.func22, Tryd.ntmps22
  go_wp2_with ((with_reducible refine wpList_op rfl ?_); intro _ hK; first
    | (refine wp_box_sl (v := .agg h.cells.toArray) 35 _ rfl rfl H (fun A w' (H : At w0 (raw A h.cells.toArray 35 :: F) w') _ => hK _ _ ?_))
    | (refine wp_box_sl (v := .agg p.cells.toArray) 39 _ rfl rfl H (fun P w' (H : At w0 (raw P p.cells.toArray 39 :: raw A h.cells.toArray 35 :: F) w') _ => hK _ _ ?_))
    | (refine wp_alloc_sl 45 rfl info_slot H (fun O w' (H : At w0 (raw O SlotD.zero.cells.toArray 45 :: raw P p.cells.toArray 39 :: raw A h.cells.toArray 35 :: F) w') _ => hK _ _ ?_))
    | (refine wp_alloc_sl 45 rfl info_slot H (fun S w' (H : At w0 (raw S SlotD.zero.cells.toArray 45 :: raw O SlotD.zero.cells.toArray 45 :: raw P p.cells.toArray 39 :: raw A h.cells.toArray 35 :: F) w') _ => hK _ _ ?_))
    | (refine wp_get 33 _ rfl rfl (by kernel_rfl) (at_raw H 2 rfl h5.out) (hK _ _ ?_))
    | (refine wp_get 33 _ rfl rfl (by kernel_rfl) (at_raw H 2 rfl h6.out) (hK _ _ ?_))
    | (refine wp_get 30 _ rfl rfl (by kernel_rfl) (at_raw H 2 rfl h7.out) (hK _ _ ?_))
    | (refine Hg.wp_build 45 _ rfl (by rw [Array.toList_map]; rfl) (HB.out _) (hK _ _ ?_))
    | (refine wp_store_row_sl 45 _ _ rfl (b := S) (cells := S0.cells.toArray) rfl rfl (by rw [List.size_toArray, hS40.out]; exact size_slot) (by simpa using SlotD.cells_one) 0 H rfl (by rw [List.size_toArray, List.size_toArray, hS40.out]; rfl) (fun w' (H : At w0 (raw S S0.cells.toArray 45 :: raw O SlotD.zero.cells.toArray 45 :: raw P p.cells.toArray 39 :: raw A h.cells.toArray 35 :: F) w') => hK _ _ ?_)))
  refine wpM_begin [] ((fun w => At w0 (raw P p.cells.toArray 39 :: raw A h.cells.toArray 35 :: F) w)) [(0, 2), (1, 2), (2, 2), (3, 1), (4, 2), (5, 2), (6, 2), (7, 1), (8, 2), (9, 2), (10, 2), (11, 1), (12, 2), (13, 2), (14, 2), (15, 1), (16, 2), (17, 1), (18, 2), (19, 0), (20, 2), (21, 0), (22, 2), (23, 0), (24, 2), (25, 0), (26, 2), (27, 0)] rfl (by kernel_rfl) (by kernel_rfl) ((H.drew.tail.tail)) ?_
  intro ops hOps hS
  replace H := H.drew
  refine wpM_free hOps rfl (fun _ _ _ h => h) (yl_move rfl _ rfl) ?_
  simp only [nrm]
  refine wpM_free hOps rfl (fun _ _ _ h => h) (yl_nil rfl _ rfl _ rfl) ?_
  simp only [nrm]
  refine wpM_free hOps (v := ?vOp1409) rfl (fun _ _ _ h => h) (yl rfl ?yOp1409) ?_
  case yOp1409 => (intro w hw; go_simp; first | done | rfl)
  simp only [nrm]
  refine wpM_take hOps hS rfl (fun _ _ _ h => h) (yl_get rfl _ _ rfl rfl (by kernel_rfl) (fun w hw => at_raw hw.tail.tail q HQ.out (v := .int .u16 (n.addr : Int)) rfl)) ?_
  simp only [nrm]
  refine wpM_free hOps rfl (fun _ _ _ h => h) (yl_move rfl _ rfl) ?_
  simp only [nrm]
  refine wpM_free hOps rfl (fun _ _ _ h => h) (yl_nil rfl _ rfl _ rfl) ?_
  simp only [nrm]
  refine wpM_free hOps (v := ?vOp1419) rfl (fun _ _ _ h => h) (yl rfl ?yOp1419) ?_
  case yOp1419 => (intro w hw; go_simp; first | done | rfl)
  simp only [nrm]
  refine wpM_take hOps hS rfl (fun _ _ _ h => h) (yl_get rfl _ _ rfl rfl (by kernel_rfl) (fun w hw => at_raw hw.tail.tail q HQ.out (v := .int .u16 (n.who : Int)) rfl)) ?_
  simp only [nrm]
  refine wpM_free hOps rfl (fun _ _ _ h => h) (yl_move rfl _ rfl) ?_
  simp only [nrm]
  refine wpM_free hOps rfl (fun _ _ _ h => h) (yl_nil rfl _ rfl _ rfl) ?_
  simp only [nrm]
  refine wpM_free hOps (v := ?vOp1429) rfl (fun _ _ _ h => h) (yl rfl ?yOp1429) ?_
  case yOp1429 => (intro w hw; go_simp; first | done | rfl)
  simp only [nrm]
  refine wpM_take hOps hS rfl (fun _ _ _ h => h) (yl_get rfl _ _ rfl rfl (by kernel_rfl) (fun w hw => at_raw hw.tail.tail q HQ.out g1.out)) ?_
  simp only [nrm]
  refine wpM_free hOps rfl (fun _ _ _ h => h) (yl_move rfl _ rfl) ?_
  simp only [nrm]
  refine wpM_free hOps rfl (fun _ _ _ h => h) (yl_nil rfl _ rfl _ rfl) ?_
  simp only [nrm]
  refine wpM_free hOps (v := ?vOp1439) rfl (fun _ _ _ h => h) (yl rfl ?yOp1439) ?_
  case yOp1439 => (intro w hw; go_simp; first | done | rfl)
  simp only [nrm]
  refine wpM_take hOps hS rfl (fun _ _ _ h => h) (yl_mid rfl 32 _ rfl (b := N) (off := 35) rfl (v8 n.nonce) (by kernel_rfl) (by rw [v8_length, NO.out.nonce]; exact size_nonce) (fun w hw => at_part hw.tail.tail q HQ.out (by rw [v8_length, NO.out.nonce]; exact g2.out))) ?_
  simp only [nrm]
  refine wpM_free hOps (v := ?vOp1443) rfl (fun _ _ _ h => h) (yl rfl ?yOp1443) ?_
  case yOp1443 => (intro w hw; go_simp; first | done | rfl)
  simp only [nrm]
  refine wpM_take hOps hS rfl (fun _ _ _ h => h) (yl_mid rfl 36 _ rfl (b := P) (off := 18) rfl (v8 p.mac) (by kernel_rfl) (by rw [v8_length, PO.out.mac]; exact size_mact) (fun w hw => at_part hw 0 rfl (by rw [v8_length, PO.out.mac]; exact g3.out))) ?_
  simp only [nrm]
  refine wpM_free hOps (v := ?vOp1447) rfl (fun _ _ _ h => h) (yl rfl ?yOp1447) ?_
  case yOp1447 => (intro w hw; go_simp; first | done | rfl)
  simp only [nrm]
  refine wpM_next hOps rfl rfl ?_
  intro K hK
  refine wp_store_sl 26 _ _ rfl (b := S) (off := 1) (v := .int .u16 (n.addr : Int)) rfl rfl (by kernel_rfl) rfl 0 H rfl (by rw [List.size_toArray, hS40.out]; omega) (fun w' H => ?_); rw [hs1.out] at H; replace H : At w0 (raw S S1.cells.toArray 45 :: raw O SlotD.zero.cells.toArray 45 :: raw P p.cells.toArray 39 :: raw A h.cells.toArray 35 :: F) w' := H
  have hS := (H.tail.tail)
  refine hK _ _ (.inr hS) ?_
  clear hK K
  simp only [nrm]
  refine wpM_free hOps (v := ?vOp1450) rfl (fun _ _ _ h => h) (yl rfl ?yOp1450) ?_
  case yOp1450 => (intro w hw; go_simp; first | done | rfl)
  simp only [nrm]
  refine wpM_next hOps rfl rfl ?_
  intro K hK
  refine wp_store_sl 27 _ _ rfl (b := S) (off := 3) (v := .int .u16 (n.who : Int)) rfl rfl (by kernel_rfl) rfl 0 H rfl (by rw [List.size_toArray, h41.out]; omega) (fun w' H => ?_); rw [hs2.out] at H; replace H : At w0 (raw S S2.cells.toArray 45 :: raw O SlotD.zero.cells.toArray 45 :: raw P p.cells.toArray 39 :: raw A h.cells.toArray 35 :: F) w' := H
  have hS := (H.tail.tail)
  refine hK _ _ (.inr hS) ?_
  clear hK K
  simp only [nrm]
  refine wpM_free hOps (v := ?vOp1453) rfl (fun _ _ _ h => h) (yl rfl ?yOp1453) ?_
  case yOp1453 => (intro w hw; go_simp; first | done | rfl)
  simp only [nrm]
  refine wpM_next hOps rfl rfl ?_
  intro K hK
  refine wp_store_sl 30 _ _ rfl (b := S) (off := 4) (v := .int .u32 (n.epoch : Int)) rfl rfl (by kernel_rfl) rfl 0 H rfl (by rw [List.size_toArray, h42.out]; omega) (fun w' H => ?_); rw [hs3.out] at H; replace H : At w0 (raw S S3.cells.toArray 45 :: raw O SlotD.zero.cells.toArray 45 :: raw P p.cells.toArray 39 :: raw A h.cells.toArray 35 :: F) w' := H
  have hS := (H.tail.tail)
  refine hK _ _ (.inr hS) ?_
  clear hK K
  simp only [nrm]
  refine wpM_free hOps (v := ?vOp1456) rfl (fun _ _ _ h => h) (yl rfl ?yOp1456) ?_
  case yOp1456 => (intro w hw; go_simp; first | done | rfl)
  simp only [nrm]
  refine wpM_next hOps rfl rfl ?_
  intro K hK
  refine wp_store_mid_sl 32 _ _ rfl (b := S) (off := 5) (cells := v8 n.nonce) rfl rfl (by rw [v8_length, NO.out.nonce]; exact size_nonce) (v8_one _) 0 H rfl (by rw [List.size_toArray, v8_length, NO.out.nonce, h43.out]; omega) (fun w' H => ?_); rw [List.toList_toArray, hs4.out] at H; replace H : At w0 (raw S S4.cells.toArray 45 :: raw O SlotD.zero.cells.toArray 45 :: raw P p.cells.toArray 39 :: raw A h.cells.toArray 35 :: F) w' := H
  have hS := (H.tail.tail)
  refine hK _ _ (.inr hS) ?_
  clear hK K
  simp only [nrm]
  refine wpM_free hOps (v := ?vOp1459) rfl (fun _ _ _ h => h) (yl rfl ?yOp1459) ?_
  case yOp1459 => (intro w hw; go_simp; first | done | rfl)
  simp only [nrm]
  refine wpM_next hOps rfl rfl ?_
  intro K hK
  refine wp_store_mid_sl 36 _ _ rfl (b := S) (off := 21) (cells := v8 p.mac) rfl rfl (by rw [v8_length, PO.out.mac]; exact size_mact) (v8_one _) 0 H rfl (by rw [List.size_toArray, v8_length, PO.out.mac, h44.out]; omega) (fun w' H => ?_); rw [List.toList_toArray, hs5.out] at H; replace H : At w0 (raw S S5.cells.toArray 45 :: raw O SlotD.zero.cells.toArray 45 :: raw P p.cells.toArray 39 :: raw A h.cells.toArray 35 :: F) w' := H
  have hS := (H.tail.tail)
  refine hK _ _ (.inr hS) ?_
  clear hK K
  simp only [nrm]
  refine wpM_end ?_
  clear hOps hS ops
  go_wp2_with ((with_reducible refine wpList_op rfl ?_); intro _ hK; first
    | (refine wp_mid 45 _ rfl (b := S) (off := 0) rfl S5.cells (by kernel_rfl) (by rw [h45.out]; exact size_slot) (at_blk H 0 rfl) (hK _ _ ?_))
    | (refine wp_store_row_sl 45 _ _ rfl (b := O) (cells := S5.cells.toArray) rfl rfl (by rw [List.size_toArray, h45.out]; exact size_slot) (by simpa using SlotD.cells_one) 1 H rfl (by rw [List.size_toArray, List.size_toArray, h45.out]; rfl) (fun w' H => ?_); replace H : At w0 (raw O S5.cells.toArray 45 :: F) w' := H.maskR [false, true, false, false]; refine hK _ _ ?_))
  exact bodyPost_ret (v := .agg S5.cells.toArray) (results_row rfl _ rfl (at_blk H 0 rfl) (by kernel_rfl) (by rw [h45.out]; exact size_slot)) rfl ⟨rfl, H.tail⟩
end Go.Proofs.YtgdphamdbpkjdaaDoor
