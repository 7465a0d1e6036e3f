import Derived.Test.YtmflbekabkainaaGreatDoorQOnionB
import Derived.Test.YtmflbekabkainaaGreatDoorQNodeS
import Derived.Test.YtmflbekabkainaaGreatDoorQHgC
set_option linter.unusedVariables false
set_option linter.unusedSimpArgs false
namespace Go.Proofs.YtmflbekabkainaaGreatDoor
open Go.RowKit Go.Hg
set_option maxRecDepth 10000 in
set_option maxHeartbeats 400000 in
theorem told_c (n r : Int) (b : Bool) (hr : r = if b then n else 0) (w : World) : Calls Tryz.prog 95 #[.int .u64 n, .bool b] w fun e w' => e = .returned (.tuple #[.int .u64 r, .bool b]) ∧ w = w' := by
 subst hr
 cases b
 all_goals
  go_enter Tryz.func95, Tryz.ntmps95
  go_wp2
  go_ret2
  exact ⟨rfl, rfl⟩
def addN (a b : Nat) : Nat := if a + b < 18446744073709551616 then a + b else 0
set_option maxRecDepth 10000 in
set_option maxHeartbeats 400000 in
theorem cadd_c {a b : Nat} (ha : a < 18446744073709551616) (hb : b < 18446744073709551616) (w : World) : Calls Tryz.prog 54 #[.int .u64 (a : Int), .int .u64 (b : Int)] w fun e w' =>
    e = .returned (.tuple #[.int .u64 (addN a b : Int), .bool (decide (a + b < 18446744073709551616))]) ∧ w = w' := by
 obtain ⟨s, hs⟩ : ∃ s, s = IntKind.u64.wrap ((a : Int) + (b : Int)) := ⟨_, rfl⟩
 obtain ⟨g, hg⟩ : ∃ g, g = decide ((a : Int) ≤ s) := ⟨_, rfl⟩
 have hs2 : s = ((a : Int) + (b : Int)) % 18446744073709551616 := by rw [hs, IntKind.wrap_u64]
 have HS := Lib.hid hs.symm
 have HG := Lib.hid hg.symm
 have hg2 : g = decide (a + b < 18446744073709551616) := by
  rw [hg]
  apply decide_eq_decide.2
  omega
 have hr : (addN a b : Int) = if g then s else 0 := by
  rw [hg2]
  unfold addN
  by_cases h : a + b < 18446744073709551616
  · rw [if_pos h, decide_eq_true h, if_pos rfl]; omega
  · rw [if_neg h, decide_eq_false h]; rfl
 have HR := Lib.hid hr
 rw [← hg2]
 obtain ⟨r, hrr⟩ : ∃ r : Int, r = (addN a b : Int) := ⟨_, rfl⟩
 rw [← hrr] at HR ⊢
 clear hs hg hs2 hg2 hr ha hb hrr
 go_enter Tryz.func54, Tryz.ntmps54
 go_wp2_with fail
 rw [HS.out, HG.out]
 refine (told_c s r g HR.out _).mono ?_; rintro e w' ⟨rfl, rfl⟩
 go_wp2
 go_ret2
 exact ⟨rfl, rfl⟩
def low32 (n : Nat) : Nat := if n < 4294967296 then n else 0
set_option maxRecDepth 10000 in
set_option maxHeartbeats 400000 in
theorem fits_c {n : Nat} (hn : n < 18446744073709551616) (w : World) : Calls Tryz.prog 102 #[.int .u64 (n : Int)] w fun e w' => e = .returned (.tuple #[.int .u32 (low32 n : Int), .bool (decide (n < 4294967296))]) ∧ w = w' := by
 unfold low32
 by_cases h : n < 4294967296
 · rw [if_pos h, decide_eq_true h]
   have h1 : (n : Int) < 4294967296 := by omega
   have e1 : IntKind.u32.wrap (n : Int) = (n : Int) := by rw [IntKind.wrap_u32]; omega
   have e2 : IntKind.u64.wrap (n : Int) = (n : Int) := by rw [IntKind.wrap_u64]; omega
   clear h hn
   go_enter Tryz.func102, Tryz.ntmps102
   go_wp2
   go_ret2
   exact ⟨rfl, rfl⟩
 · rw [if_neg h, decide_eq_false h]
   obtain ⟨x, hx⟩ : ∃ x, x = IntKind.u32.wrap (n : Int) := ⟨_, rfl⟩
   have hx2 : x = (n : Int) % 4294967296 := by rw [hx, IntKind.wrap_u32]
   have hy : IntKind.u64.wrap x = x := by rw [IntKind.wrap_u64]; omega
   have hne : ¬ x = (n : Int) := by omega
   have e1 := hx.symm
   clear h hn hx hx2
   go_enter Tryz.func102, Tryz.ntmps102
   go_wp2
   go_ret2
   exact ⟨rfl, rfl⟩
set_option maxRecDepth 10000 in
set_option maxHeartbeats 400000 in
theorem to32_c {n : Nat} (hn : n < 18446744073709551616) (w : World) : Calls Tryz.prog 64 #[.int .u64 (n : Int)] w fun e w' => e = .returned (.tuple #[.int .u32 (low32 n : Int), .bool (decide (n < 4294967296))]) ∧ w = w' := by
 have HC := Lib.hid (fun w => fits_c hn w)
 obtain ⟨x, hx⟩ : ∃ x, x = low32 n := ⟨_, rfl⟩
 obtain ⟨y, hy⟩ : ∃ y, y = decide (n < 4294967296) := ⟨_, rfl⟩
 rw [← hx, ← hy] at HC ⊢
 clear hx hy hn
 go_enter Tryz.func64, Tryz.ntmps64
 go_wp2_with fail
 refine (HC.out _).mono ?_; rintro e w' ⟨rfl, rfl⟩
 go_wp2
 go_ret2
 exact ⟨rfl, rfl⟩
set_option maxRecDepth 10000 in
set_option maxHeartbeats 400000 in
theorem epoch_c {n : Nat} (hn : n < 18446744073709551616) (w : World) : Calls Tryz.prog 39 #[.int .u64 (n : Int)] w fun e w' => e = .returned (.tuple #[.int .u32 (low32 (n / 1000) : Int), .bool (decide (n / 1000 < 4294967296))]) ∧ w = w' := by
 have hq : IntKind.u64.wrap ((n : Int) / 1000) = ((n / 1000 : Nat) : Int) := by rw [IntKind.wrap_u64]; omega
 have HC := Lib.hid (fun w => to32_c (n := n / 1000) (by omega) w)
 obtain ⟨m, hm2⟩ : ∃ m, m = n / 1000 := ⟨_, rfl⟩
 rw [← hm2] at hq HC ⊢
 obtain ⟨x, hx⟩ : ∃ x, x = low32 m := ⟨_, rfl⟩
 obtain ⟨y, hy⟩ : ∃ y, y = decide (m < 4294967296) := ⟨_, rfl⟩
 rw [← hx, ← hy] at HC ⊢
 clear hm2 hn hx hy
 go_enter Tryz.func39, Tryz.ntmps39
 go_wp2_with fail
 refine (HC.out _).mono ?_; rintro e w' ⟨rfl, rfl⟩
 go_wp2
 go_ret2
 exact ⟨rfl, rfl⟩
set_option maxRecDepth 10000 in
set_option maxHeartbeats 400000 in
theorem whas_c {w0 w : World} {F : List SP} (H : At w0 F w) (lo hi t : Nat) : Calls Tryz.prog 53 #[.agg #[.int .u64 (lo : Int), .int .u64 (hi : Int)], .int .u64 (t : Int)] w fun e w' =>
    e = .returned (.int .i64 ((if t < lo then 5 else if hi < t then 6 else 0 : Nat) : Int)) ∧ At w0 F w' := by
 have c1 : ((t : Int) < (lo : Int)) = (t < lo) := by apply propext; omega
 have c2 : ((hi : Int) < (t : Int)) = (hi < t) := by apply propext; omega
 by_cases h1 : t < lo
 · have h1' : (t : Int) < (lo : Int) := by omega
   rw [if_pos h1]
   clear c1 c2 h1
   go_enter Tryz.func53, Tryz.ntmps53
   go_wp2_with ((with_reducible refine wpList_op rfl ?_); intro _ hK; first
    | (refine wp_box_sl (v := .agg #[.int .u64 (lo : Int), .int .u64 (hi : Int)]) 143 _ rfl rfl H (fun A w' (H : At w0 (raw A #[.int .u64 (lo : Int), .int .u64 (hi : Int)] 143 :: F) w') _ => hK _ _ ?_))
    | (refine dst_is 8 rfl ?_; refine wp_get 22 _ rfl rfl (by kernel_rfl) (at_raw H 0 rfl (j := 0) rfl) (hK _ _ ?_)))
   go_ret
   exact ⟨rfl, H.tail⟩
 · rw [if_neg h1]
   have h1' : ¬ (t : Int) < (lo : Int) := by omega
   by_cases h2 : hi < t
   · rw [if_pos h2]
     have h2' : (hi : Int) < (t : Int) := by omega
     clear c1 c2 h1 h2
     go_enter Tryz.func53, Tryz.ntmps53
     go_wp2_with ((with_reducible refine wpList_op rfl ?_); intro _ hK; first
      | (refine wp_box_sl (v := .agg #[.int .u64 (lo : Int), .int .u64 (hi : Int)]) 143 _ rfl rfl H (fun A w' (H : At w0 (raw A #[.int .u64 (lo : Int), .int .u64 (hi : Int)] 143 :: F) w') _ => hK _ _ ?_))
      | (refine dst_is 8 rfl ?_; refine wp_get 22 _ rfl rfl (by kernel_rfl) (at_raw H 0 rfl (j := 0) rfl) (hK _ _ ?_))
      | (refine dst_is 13 rfl ?_; refine wp_get 22 _ rfl rfl (by kernel_rfl) (at_raw H 0 rfl (j := 1) rfl) (hK _ _ ?_)))
     go_ret
     exact ⟨rfl, H.tail⟩
   · rw [if_neg h2]
     have h2' : ¬ (hi : Int) < (t : Int) := by omega
     clear c1 c2 h1 h2
     go_enter Tryz.func53, Tryz.ntmps53
     go_wp2_with ((with_reducible refine wpList_op rfl ?_); intro _ hK; first
      | (refine wp_box_sl (v := .agg #[.int .u64 (lo : Int), .int .u64 (hi : Int)]) 143 _ rfl rfl H (fun A w' (H : At w0 (raw A #[.int .u64 (lo : Int), .int .u64 (hi : Int)] 143 :: F) w') _ => hK _ _ ?_))
      | (refine dst_is 8 rfl ?_; refine wp_get 22 _ rfl rfl (by kernel_rfl) (at_raw H 0 rfl (j := 0) rfl) (hK _ _ ?_))
      | (refine dst_is 13 rfl ?_; refine wp_get 22 _ rfl rfl (by kernel_rfl) (at_raw H 0 rfl (j := 1) rfl) (hK _ _ ?_)))
     go_ret
     exact ⟨rfl, H.tail⟩
set_option maxRecDepth 10000 in
set_option maxHeartbeats 2000000 in
theorem pack_c {w0 w : World} {F : List SP} {p : PktD} (H : At w0 F w) (h : p.ok) : Calls Tryz.prog 42 #[.agg p.cells.toArray] w (NewB w0 F (packOf p)) := by
 have hpl := Lib.hid (PktD.cells_length h)
 have HOK := Lib.hid h
 obtain ⟨Z, hZ⟩ : ∃ Z, Z = packOf p := ⟨_, rfl⟩
 have hZl := Lib.hid (show Z.length = 614 by rw [hZ]; exact packOf_length h)
 have hZe := Lib.hid (show [] ++ beN 2 p.who ++ beN 4 p.epoch ++ p.nonce ++ p.mac ++ p.head ++ p.body = Z by rw [hZ]; rfl)
 have hwh : (p.who : Int) < 18446744073709551616 := by have := h.who; omega
 have hep : (p.epoch : Int) < 18446744073709551616 := by have := h.epoch; omega
 have HWH := Lib.hid hwh
 have HEP := Lib.hid hep
 have h2 := Lib.hid (PktD.part_nonce h)
 have h3 := Lib.hid (PktD.part_mac h)
 have h4 := Lib.hid (PktD.part_head h)
 have h5 := Lib.hid (PktD.part_body h)
 rw [← hZ]
 clear h hZ hwh hep
 go_enter Tryz.func42, Tryz.ntmps42
 go_wp2_with ((with_reducible refine wpList_op rfl ?_); intro _ hK; first
  | (refine dst_is 1 rfl ?_; refine wp_box_sl (v := .agg p.cells.toArray) 89 _ rfl rfl H (fun A w' (H : At w0 (raw A p.cells.toArray 89 :: F) w') _ => hK _ _ ?_))
  | (refine dst_is 5 rfl ?_; refine wp_box_sl (v := .agg #[.slice none 0 0]) 172 _ rfl rfl H (fun P w' H _ => ?_); replace H := wri_new H; replace H : At w0 (wri P [] :: raw A p.cells.toArray 89 :: F) w' := H; refine hK _ _ ?_))
 refine wpM_begin [] ((fun w => At w0 (raw A p.cells.toArray 89 :: F) w)) [(0, 2), (1, 2), (2, 1), (4, 2), (5, 1), (7, 2), (8, 2), (10, 2), (11, 2), (3, 0), (6, 0), (9, 0), (12, 0)] rfl (by kernel_rfl) (by kernel_rfl) ((H.drew.tail)) ?_
 intro ops hOps hS
 replace H := H.drew
 iterate 2 refine fm hOps ?_
 refine tm hOps hS (fun w hw => at_raw hw 0 rfl (v := .int .u16 (p.who : Int)) rfl) ?_
 refine fm hOps ?_
 refine tm hOps hS (fun w hw => at_raw hw 0 rfl (v := .int .u32 (p.epoch : Int)) rfl) ?_
 iterate 4 refine fm hOps ?_
 refine wpM_next hOps rfl rfl ?_
 intro K hK
 refine wp_call _ _ _ rfl Tryz.func72 rfl (by kernel_rfl) ?_
 simp only [List.map_toArray, List.map_cons, List.map_nil, Act.eval, Array.getD_eq_getD_getElem?, List.getElem?_toArray, List.getElem?_cons_zero, List.getElem?_cons_succ, Option.getD_some]
 refine (wu16_c H HWH.out (by simp)).mono ?_; rintro e w' ⟨rfl, H⟩
 have hS := (H.tail)
 refine hK _ _ (.inr hS) ?_
 clear hK K
 simp only [nrm]
 refine wpM_next hOps rfl rfl ?_
 intro K hK
 refine wp_call _ _ _ rfl Tryz.func73 rfl (by kernel_rfl) ?_
 simp only [List.map_toArray, List.map_cons, List.map_nil, Act.eval, Array.getD_eq_getD_getElem?, List.getElem?_toArray, List.getElem?_cons_zero, List.getElem?_cons_succ, Option.getD_some]
 refine (wu32_c H HEP.out (by simp [beN_length])).mono ?_; rintro e w' ⟨rfl, H⟩
 have hS := (H.tail)
 refine hK _ _ (.inr hS) ?_
 clear hK K
 simp only [nrm]
 refine wpM_next hOps rfl rfl ?_
 intro K hK
 refine wp_call _ _ _ rfl Tryz.func74 rfl (by kernel_rfl) ?_
 simp only [List.map_toArray, List.map_cons, List.map_nil, Act.eval, Array.getD_eq_getD_getElem?, List.getElem?_toArray, List.getElem?_cons_zero, List.getElem?_cons_succ, Option.getD_some]
 refine (wbytes_c (xs := p.nonce) H (see_part 0 rfl HOK.out.nonce.symm (Nat.le_refl _) h2.out) (by rw [HOK.out.nonce]; simp [beN_length])).mono ?_; rintro e w' ⟨rfl, H⟩
 have hS := (H.tail)
 refine hK _ _ (.inr hS) ?_
 clear hK K
 simp only [nrm]
 refine wpM_next hOps rfl rfl ?_
 intro K hK
 refine wp_call _ _ _ rfl Tryz.func74 rfl (by kernel_rfl) ?_
 simp only [List.map_toArray, List.map_cons, List.map_nil, Act.eval, Array.getD_eq_getD_getElem?, List.getElem?_toArray, List.getElem?_cons_zero, List.getElem?_cons_succ, Option.getD_some]
 refine (wbytes_c (xs := p.mac) H (see_part 0 rfl HOK.out.mac.symm (Nat.le_refl _) h3.out) (by rw [List.length_append, HOK.out.nonce, HOK.out.mac]; simp [beN_length])).mono ?_; rintro e w' ⟨rfl, H⟩
 have hS := (H.tail)
 refine hK _ _ (.inr hS) ?_
 clear hK K
 simp only [nrm]
 refine wpM_end ?_
 clear hOps hS ops
 generalize hY : [] ++ beN 2 p.who ++ beN 4 p.epoch ++ p.nonce ++ p.mac = Y at H hZe
 have hYl := Lib.hid (show Y.length = 38 by rw [← hY]; simp [beN_length, HOK.out.nonce, HOK.out.mac])
 clear hY
 go_wp2_with fail
 refine wpM_begin [] ((fun w => At w0 (raw A p.cells.toArray 89 :: F) w)) [(0, 2), (1, 2), (2, 2), (4, 2), (5, 2), (3, 0), (6, 0), (7, 0), (8, 0)] rfl (by kernel_rfl) (by kernel_rfl) ((H.drew.tail)) ?_
 intro ops hOps hS
 replace H := H.drew
 iterate 5 refine fm hOps ?_
 refine wpM_next hOps rfl rfl ?_
 intro K hK
 refine wp_call _ _ _ rfl Tryz.func74 rfl (by kernel_rfl) ?_
 simp only [List.map_toArray, List.map_cons, List.map_nil, Act.eval, Array.getD_eq_getD_getElem?, List.getElem?_toArray, List.getElem?_cons_zero, List.getElem?_cons_succ, Option.getD_some]
 refine (wbytes_c (xs := p.head) H (see_part 0 rfl HOK.out.head.symm (Nat.le_refl _) h4.out) (by rw [hYl.out, HOK.out.head]; omega)).mono ?_; rintro e w' ⟨rfl, H⟩
 have hS := (H.tail)
 refine hK _ _ (.inr hS) ?_
 clear hK K
 simp only [nrm]
 refine wpM_next hOps rfl rfl ?_
 intro K hK
 refine wp_call _ _ _ rfl Tryz.func74 rfl (by kernel_rfl) ?_
 simp only [List.map_toArray, List.map_cons, List.map_nil, Act.eval, Array.getD_eq_getD_getElem?, List.getElem?_toArray, List.getElem?_cons_zero, List.getElem?_cons_succ, Option.getD_some]
 refine (wbytes_c (xs := p.body) H (see_part 0 rfl HOK.out.body.symm (Nat.le_refl _) h5.out) (by rw [List.length_append, hYl.out, HOK.out.head, HOK.out.body]; omega)).mono ?_; rintro e w' ⟨rfl, H⟩
 rw [hZe.out] at H
 have hS := (H.tail)
 refine hK _ _ (.inr hS) ?_
 clear hK K
 simp only [nrm]
 refine wpM_next hOps rfl rfl ?_
 intro K hK
 refine wp_call _ _ _ rfl Tryz.func75 rfl (by kernel_rfl) ?_
 simp only [List.map_toArray, List.map_cons, List.map_nil, Act.eval, Array.getD_eq_getD_getElem?, List.getElem?_toArray, List.getElem?_cons_zero, List.getElem?_cons_succ, Option.getD_some]
 refine (wdone_c H (by rw [hZl.out]; omega)).mono ?_; rintro e w' ⟨za, zq, rfl, H⟩
 rw [hZl.out] at H ⊢
 have hS := (H.tail.tail)
 refine hK _ _ (.inr hS) ?_
 clear hK K
 simp only [nrm]
 refine wpM_next hOps rfl rfl ?_
 intro K hK
 refine wp_run rfl ?_
 have hS := (hS)
 refine hK _ _ (.inr hS) ?_
 clear hK K
 simp only [nrm]
 refine wpM_end ?_
 clear hOps hS ops
 go_wp2
 go_ret
 exact ⟨za, zq, by rw [hZl.out]; rfl, by rw [hZl.out]; exact H.maskR [true, false, false]⟩
theorem under_slices : Tryz.prog.underlying 189 = some (.slice 33) := by kernel_rfl
theorem info_slice : (Tryz.prog.info? 33).map (fun i => (i.zero, i.size, i.bytes)) = some (some (.slice none 0 0), 1, 24) := by kernel_rfl
def unpk (b : List (BitVec 8)) (j : Nat) : PktD := ⟨deN (b.take 2), deN ((b.drop 2).take 4), if 0 < j then (b.drop 6).take 16 else zs 16, if 1 < j then (b.drop 22).take 16 else zs 16, if 2 < j then (b.drop 38).take 320 else zs 320, if 3 < j then (b.drop 358).take 256 else zs 256⟩
def unoff (j : Nat) : Nat := if j = 0 then 6 else if j = 1 then 22 else if j = 2 then 38 else if j = 3 then 358 else 614
theorem unpk_zero (b : List (BitVec 8)) : unpk b 0 = { PktD.zero with who := deN (b.take 2), epoch := deN ((b.drop 2).take 4) } := rfl
theorem unpk_last (b : List (BitVec 8)) (hb : b.length = 614) : unpk b 4 = unpackOf b := by
 have : (b.drop 358).take 256 = b.drop 358 := List.take_of_length_le (by rw [List.length_drop, hb]; omega)
 rfl
theorem unpk_step (b : List (BitVec 8)) (hb : b.length = 614) (j n off : Nat) (hj : j < 4) (hn : n = if j < 2 then 16 else if j = 2 then 320 else 256) (ho : off = if j = 0 then 2 else if j = 1 then 18 else if j = 2 then 34 else 354) :
    (unpk b j).cells.take off ++ v8 ((b.drop (unoff j)).take n) ++ (unpk b j).cells.drop (off + n) = (unpk b (j + 1)).cells ∧ (b.drop (unoff j)).drop n = b.drop (unoff (j + 1)) ∧ n ≤ (b.drop (unoff j)).length ∧ off + n ≤ (unpk b j).cells.length := by
 have l1 : ∀ k m, k + m ≤ 614 → ((b.drop k).take m).length = m := fun k m h => by rw [List.length_take, List.length_drop, hb]; omega
 have a16 : (zs 16).length = 16 := zs_length _
 have a320 : (zs 320).length = 320 := zs_length _
 have a256 : (zs 256).length = 256 := zs_length _
 rcases (by omega : j = 0 ∨ j = 1 ∨ j = 2 ∨ j = 3) with rfl | rfl | rfl | rfl
 · subst hn ho
   have h := PktD.put_nonce (p := unpk b 0) a16 (X := (b.drop 6).take 16) (l1 6 16 (by omega))
   rw [v8_length, l1 6 16 (by omega)] at h
   exact ⟨h, List.drop_drop, by show 16 ≤ (b.drop 6).length; rw [List.length_drop, hb]; omega, by simp [PktD.cells, v8_length, unpk, zs_length, hb]⟩
 · subst hn ho
   have h := PktD.put_mac (p := unpk b 1) (l1 6 16 (by omega)) a16 (X := (b.drop 22).take 16) (l1 22 16 (by omega))
   rw [v8_length, l1 22 16 (by omega)] at h
   exact ⟨h, List.drop_drop, by show 16 ≤ (b.drop 22).length; rw [List.length_drop, hb]; omega, by simp [PktD.cells, v8_length, unpk, zs_length, hb]⟩
 · subst hn ho
   have h := PktD.put_head (p := unpk b 2) (l1 6 16 (by omega)) (l1 22 16 (by omega)) a320 (X := (b.drop 38).take 320) (l1 38 320 (by omega))
   rw [v8_length, l1 38 320 (by omega)] at h
   exact ⟨h, List.drop_drop, by show 320 ≤ (b.drop 38).length; rw [List.length_drop, hb]; omega, by simp [PktD.cells, v8_length, unpk, zs_length, hb]⟩
 · subst hn ho
   have h := PktD.put_body (p := unpk b 3) (l1 6 16 (by omega)) (l1 22 16 (by omega)) (l1 38 320 (by omega)) a256 (X := (b.drop 358).take 256) (l1 358 256 (by omega))
   rw [v8_length, l1 358 256 (by omega)] at h
   exact ⟨h, List.drop_drop, by show 256 ≤ (b.drop 358).length; rw [List.length_drop, hb]; omega, by simp [PktD.cells, v8_length, unpk, zs_length, hb]⟩
set_option maxRecDepth 10000 in
set_option maxHeartbeats 4000000 in
theorem unpack_c {w0 w : World} {F : List SP} {v : Value} {b : List (BitVec 8)} (H : At w0 F w) (hv : SeeB w0 F v b) (hb : b.length = 614) :
    Calls Tryz.prog 50 #[v] w fun e w' => e = .returned (.tuple #[.agg (unpackOf b).cells.toArray, .int .i64 0]) ∧ At w0 F w' := by
 obtain ⟨va, vc, rfl, _, _⟩ := hv.slice
 rw [hb] at hv ⊢
 have HV := Lib.hid hv
 have HB := Lib.hid hb
 have hok := Lib.hid (PktD.cells_length (unpackOf_ok hb))
 have hfin := Lib.hid (unpk_last b hb)
 have h0 := Lib.hid (unpk_zero b)
 have hl : ∀ k, (b.drop k).length = 614 - k := fun k => by rw [List.length_drop, hb]
 have HL := Lib.hid hl
 obtain ⟨T, hT⟩ : ∃ T, T = unpackOf b := ⟨_, rfl⟩
 rw [← hT] at hok hfin ⊢
 clear hv hb hl hT
 go_enter Tryz.func50, Tryz.ntmps50
 go_wp2_with ((with_reducible refine wpList_op rfl ?_); intro _ hK; refine wp_alloc_sl 89 rfl info_pkt H (fun A w' (H : At w0 (raw A PktD.zero.cells.toArray 89 :: F) w') _ => hK _ _ ?_))
 refine (read_c H (HV.out.more _) (by rw [HB.out]; omega)).mono ?_; rintro e w' ⟨p, rfl, H⟩
 go_wp2_with fail
 refine (ru16_c H (by rw [HB.out]; omega) (by rw [HB.out]; omega)).mono ?_; rintro e w' ⟨rfl, H⟩
 obtain ⟨wh, hwh⟩ : ∃ x, x = deN (b.take 2) := ⟨_, rfl⟩
 rw [← hwh]
 have HWH := Lib.hid hwh
 clear hwh
 go_wp2_with ((with_reducible refine wpList_op rfl ?_); intro _ hK; refine wp_store_sl 45 _ _ rfl (off := 0) (v := .int .u16 (wh : Int)) rfl rfl (by kernel_rfl) rfl 1 H rfl (show 0 < 610 by omega) (fun w' (H : At w0 (rdr p (b.drop 2) :: raw A ({ PktD.zero with who := wh } : PktD).cells.toArray 89 :: F) w') => hK _ _ ?_))
 refine (ru32_c H (by rw [HL.out]; omega) (by rw [HL.out]; omega)).mono ?_; rintro e w' ⟨rfl, H⟩
 rw [List.drop_drop] at H
 obtain ⟨ep, hep⟩ : ∃ x, x = deN ((b.drop 2).take 4) := ⟨_, rfl⟩
 rw [← hep]
 have hP : (unpk b 0) = { PktD.zero with who := wh, epoch := ep } := by rw [h0.out, ← HWH.out, ← hep]
 have HP := Lib.hid hP
 clear hep hP
 go_wp2_with ((with_reducible refine wpList_op rfl ?_); intro _ hK; (refine wp_store_sl 36 _ _ rfl (off := 1) (v := .int .u32 (ep : Int)) rfl rfl (by kernel_rfl) rfl 1 H rfl (show 1 < 610 by omega) (fun w' (H : At w0 (rdr p (b.drop 6) :: raw A ({ PktD.zero with who := wh, epoch := ep } : PktD).cells.toArray 89 :: F) w') => ?_); rw [← HP.out] at H; refine hK _ _ ?_))
 refine wpM_begin [] ((At w0 (rdr p (b.drop 6) :: raw A (unpk b 0).cells.toArray 89 :: F))) [(0, 2), (1, 2), (2, 2), (3, 2), (4, 2), (5, 2), (6, 2), (7, 2), (10, 2), (8, 0), (9, 2)] rfl (by kernel_rfl) (by kernel_rfl) ((H.drew)) ?_
 intro ops hOps hS
 replace H := H.drew
 iterate 9 refine fm hOps ?_
 refine wpM_next hOps rfl rfl ?_
 intro K hK
 refine wp_listn 189 under_slices info_slice _ _ rfl [.slice (some ⟨A, 2, none⟩) 16 16, .slice (some ⟨A, 18, none⟩) 16 16, .slice (some ⟨A, 34, none⟩) 320 320, .slice (some ⟨A, 354, none⟩) 256 256] rfl (by decide) (by decide) (by rw [Array.toList_map]; rfl) (by intro v hv; simp at hv; rcases hv with rfl | rfl | rfl | rfl <;> rfl) H (fun G w' H => ?_)
 have hS := (H.tail)
 refine hK _ _ (.inr hS) ?_
 clear hK K
 simp only [nrm]
 refine fm hOps ?_
 refine wpM_end ?_
 clear hOps hS ops
 replace H : At w0 (rdr p (b.drop 6) :: raw A (unpk b 0).cells.toArray 89 :: raw G #[.slice (some ⟨A, 2, none⟩) 16 16, .slice (some ⟨A, 18, none⟩) 16 16, .slice (some ⟨A, 34, none⟩) 320 320, .slice (some ⟨A, 354, none⟩) 256 256] 33 :: F) _ := H.perm (by exact (List.Perm.swap _ _ _).trans ((List.Perm.swap _ _ _).cons _))
 go_wp2_with fail
 go_loopw [44] (fun i wr => ∃ j : Nat, i = .int .i64 (j : Int) ∧ j ≤ 4 ∧ At w0 (rdr p (b.drop (unoff j)) :: raw A (unpk b j).cells.toArray 89 :: raw G #[.slice (some ⟨A, 2, none⟩) 16 16, .slice (some ⟨A, 18, none⟩) 16 16, .slice (some ⟨A, 34, none⟩) 320 320, .slice (some ⟨A, 354, none⟩) 256 256] 33 :: F) wr) (fun i _ => 4 - (intOf i).toNat)
 case atStart => exact ⟨0, rfl, by omega, H⟩
 case round =>
  clear H
  obtain ⟨j, rfl, hj, H⟩ := hrel
  rcases (by omega : j = 0 ∨ j = 1 ∨ j = 2 ∨ j = 3 ∨ j = 4) with rfl | rfl | rfl | rfl | rfl
  · have hst := unpk_step b HB.out 0 16 2 (by omega) rfl rfl
    obtain ⟨P2, hP2⟩ : ∃ P, P = unpk b (0 + 1) := ⟨_, rfl⟩
    obtain ⟨D2, hD2⟩ : ∃ D, D = b.drop (unoff (0 + 1)) := ⟨_, rfl⟩
    rw [← hP2, ← hD2] at hst
    obtain ⟨P1, hP1⟩ : ∃ P, P = unpk b 0 := ⟨_, rfl⟩
    obtain ⟨D1, hD1⟩ : ∃ D, D = b.drop (unoff 0) := ⟨_, rfl⟩
    rw [← hP1, ← hD1] at hst H
    have HST := Lib.hid hst
    have hl := Lib.hid (show D1.length ≤ 1000000 by rw [hD1, List.length_drop, HB.out]; omega)
    have HP2 := Lib.hid hP2
    have HD2 := Lib.hid hD2
    clear hst hP1 hD1 hP2 hD2
    go_wp2_with ((with_reducible refine wpList_op rfl ?_); intro _ hK; (refine dst_is 47 rfl ?_; refine wp_get 33 _ rfl rfl (by kernel_rfl) (at_raw H 2 rfl (j := 0) (v := .slice (some ⟨A, 2, none⟩) 16 16) rfl) (hK _ _ (Stop.go ?_))))
    refine Stop.un ?_
    go_wp2_with fail
    refine (fill_c (off := 2) H HST.out.2.2.1 (by omega) hl.out HST.out.2.2.2).mono ?_; rintro e w' ⟨rfl, H⟩
    rw [HST.out.1, HST.out.2.1] at H
    go_wp2
    go_roundw
    case rel => exact ⟨0 + 1, by go_num, by omega, by rw [← HP2.out, ← HD2.out]; exact H⟩
    case measure => simp [intOf]
  · have hst := unpk_step b HB.out 1 16 18 (by omega) rfl rfl
    obtain ⟨P2, hP2⟩ : ∃ P, P = unpk b (1 + 1) := ⟨_, rfl⟩
    obtain ⟨D2, hD2⟩ : ∃ D, D = b.drop (unoff (1 + 1)) := ⟨_, rfl⟩
    rw [← hP2, ← hD2] at hst
    obtain ⟨P1, hP1⟩ : ∃ P, P = unpk b 1 := ⟨_, rfl⟩
    obtain ⟨D1, hD1⟩ : ∃ D, D = b.drop (unoff 1) := ⟨_, rfl⟩
    rw [← hP1, ← hD1] at hst H
    have HST := Lib.hid hst
    have hl := Lib.hid (show D1.length ≤ 1000000 by rw [hD1, List.length_drop, HB.out]; omega)
    have HP2 := Lib.hid hP2
    have HD2 := Lib.hid hD2
    clear hst hP1 hD1 hP2 hD2
    go_wp2_with ((with_reducible refine wpList_op rfl ?_); intro _ hK; (refine dst_is 47 rfl ?_; refine wp_get 33 _ rfl rfl (by kernel_rfl) (at_raw H 2 rfl (j := 1) (v := .slice (some ⟨A, 18, none⟩) 16 16) rfl) (hK _ _ (Stop.go ?_))))
    refine Stop.un ?_
    go_wp2_with fail
    refine (fill_c (off := 18) H HST.out.2.2.1 (by omega) hl.out HST.out.2.2.2).mono ?_; rintro e w' ⟨rfl, H⟩
    rw [HST.out.1, HST.out.2.1] at H
    go_wp2
    go_roundw
    case rel => exact ⟨1 + 1, by go_num, by omega, by rw [← HP2.out, ← HD2.out]; exact H⟩
    case measure => simp [intOf]
  · have hst := unpk_step b HB.out 2 320 34 (by omega) rfl rfl
    obtain ⟨P2, hP2⟩ : ∃ P, P = unpk b (2 + 1) := ⟨_, rfl⟩
    obtain ⟨D2, hD2⟩ : ∃ D, D = b.drop (unoff (2 + 1)) := ⟨_, rfl⟩
    rw [← hP2, ← hD2] at hst
    obtain ⟨P1, hP1⟩ : ∃ P, P = unpk b 2 := ⟨_, rfl⟩
    obtain ⟨D1, hD1⟩ : ∃ D, D = b.drop (unoff 2) := ⟨_, rfl⟩
    rw [← hP1, ← hD1] at hst H
    have HST := Lib.hid hst
    have hl := Lib.hid (show D1.length ≤ 1000000 by rw [hD1, List.length_drop, HB.out]; omega)
    have HP2 := Lib.hid hP2
    have HD2 := Lib.hid hD2
    clear hst hP1 hD1 hP2 hD2
    go_wp2_with ((with_reducible refine wpList_op rfl ?_); intro _ hK; (refine dst_is 47 rfl ?_; refine wp_get 33 _ rfl rfl (by kernel_rfl) (at_raw H 2 rfl (j := 2) (v := .slice (some ⟨A, 34, none⟩) 320 320) rfl) (hK _ _ (Stop.go ?_))))
    refine Stop.un ?_
    go_wp2_with fail
    refine (fill_c (off := 34) H HST.out.2.2.1 (by omega) hl.out HST.out.2.2.2).mono ?_; rintro e w' ⟨rfl, H⟩
    rw [HST.out.1, HST.out.2.1] at H
    go_wp2
    go_roundw
    case rel => exact ⟨2 + 1, by go_num, by omega, by rw [← HP2.out, ← HD2.out]; exact H⟩
    case measure => simp [intOf]
  · have hst := unpk_step b HB.out 3 256 354 (by omega) rfl rfl
    obtain ⟨P2, hP2⟩ : ∃ P, P = unpk b (3 + 1) := ⟨_, rfl⟩
    obtain ⟨D2, hD2⟩ : ∃ D, D = b.drop (unoff (3 + 1)) := ⟨_, rfl⟩
    rw [← hP2, ← hD2] at hst
    obtain ⟨P1, hP1⟩ : ∃ P, P = unpk b 3 := ⟨_, rfl⟩
    obtain ⟨D1, hD1⟩ : ∃ D, D = b.drop (unoff 3) := ⟨_, rfl⟩
    rw [← hP1, ← hD1] at hst H
    have HST := Lib.hid hst
    have hl := Lib.hid (show D1.length ≤ 1000000 by rw [hD1, List.length_drop, HB.out]; omega)
    have HP2 := Lib.hid hP2
    have HD2 := Lib.hid hD2
    clear hst hP1 hD1 hP2 hD2
    go_wp2_with ((with_reducible refine wpList_op rfl ?_); intro _ hK; (refine dst_is 47 rfl ?_; refine wp_get 33 _ rfl rfl (by kernel_rfl) (at_raw H 2 rfl (j := 3) (v := .slice (some ⟨A, 354, none⟩) 256 256) rfl) (hK _ _ (Stop.go ?_))))
    refine Stop.un ?_
    go_wp2_with fail
    refine (fill_c (off := 354) H HST.out.2.2.1 (by omega) hl.out HST.out.2.2.2).mono ?_; rintro e w' ⟨rfl, H⟩
    rw [HST.out.1, HST.out.2.1] at H
    go_wp2
    go_roundw
    case rel => exact ⟨3 + 1, by go_num, by omega, by rw [← HP2.out, ← HD2.out]; exact H⟩
    case measure => simp [intOf]
  · rw [hfin.out] at H
    go_wp2_with ((with_reducible refine wpList_op rfl ?_); intro _ hK; first
     | (refine dst_is 52 rfl ?_; refine wp_mid 89 _ rfl rfl T.cells (by kernel_rfl) (by rw [hok.out]; exact size_pkt) (at_blk H 1 rfl) (hK _ _ ?_))
     | (refine wp_store_row_sl 89 _ _ rfl (cells := T.cells.toArray) rfl rfl (by rw [List.size_toArray, hok.out]; exact size_pkt) (by simpa using PktD.cells_one) 1 H rfl rfl (fun w' H => hK _ _ ?_)))
    exact bodyPost_ret (v := .tuple #[.agg T.cells.toArray, .int .i64 0]) (results_row_tmp rfl _ rfl (at_blk H 1 rfl) (by kernel_rfl) (by rw [hok.out]; exact size_pkt) rfl) rfl ⟨rfl, H.maskR [false, false, false]⟩
set_option maxRecDepth 10000 in
set_option maxHeartbeats 1000000 in
theorem unpack_short {w0 w : World} {F : List SP} {v : Value} {b : List (BitVec 8)} (H : At w0 F w) (hv : SeeB w0 F v b) (hb : b.length < 614) :
    Calls Tryz.prog 50 #[v] w fun e w' => e = .returned (.tuple #[.agg PktD.zero.cells.toArray, .int .i64 2]) ∧ At w0 F w' := by
 obtain ⟨va, vc, rfl, _, _⟩ := hv.slice
 have hok := Lib.hid (PktD.cells_length PktD.zero_ok)
 obtain ⟨n, hn⟩ : ∃ n, n = b.length := ⟨_, rfl⟩
 rw [← hn] at hb ⊢
 have hb1 : (n : Int) < 614 := by omega
 clear hn hv
 go_enter Tryz.func50, Tryz.ntmps50
 go_wp2_with ((with_reducible refine wpList_op rfl ?_); intro _ hK; first
  | (refine dst_is 2 rfl ?_; refine wp_alloc_sl 89 rfl info_pkt H (fun A w' (H : At w0 (raw A PktD.zero.cells.toArray 89 :: F) w') _ => hK _ _ ?_))
  | (refine dst_is 13 rfl ?_; refine Hg.wp_build 89 _ rfl (by rw [Array.toList_map]; rfl) (run_buildL places_pkt [] rfl _) (hK _ _ ?_))
  | (refine dst_is 18 rfl ?_; refine Hg.wp_build 89 _ rfl (by rw [Array.toList_map]; rfl) (run_buildL places_pkt [] rfl _) (hK _ _ ?_))
  | (refine sto_is 2 rfl ?_; refine wp_store_row_sl 89 _ _ rfl (cells := PktD.zero.cells.toArray) rfl rfl (by rw [List.size_toArray, hok.out]; exact size_pkt) (by simpa using PktD.cells_one) 0 H rfl rfl (fun w' (H : At w0 (raw A PktD.zero.cells.toArray 89 :: F) w') => hK _ _ ?_)))
 exact bodyPost_ret (v := .tuple #[.agg PktD.zero.cells.toArray, .int .i64 2]) (results_row_tmp rfl _ rfl (at_blk H 0 rfl) (by kernel_rfl) (by rw [hok.out]; exact size_pkt) rfl) rfl ⟨rfl, H.tail⟩
set_option maxRecDepth 10000 in
set_option maxHeartbeats 1000000 in
theorem unpack_long {w0 w : World} {F : List SP} {v : Value} {b : List (BitVec 8)} (H : At w0 F w) (hv : SeeB w0 F v b) (hb : 614 < b.length) :
    Calls Tryz.prog 50 #[v] w fun e w' => e = .returned (.tuple #[.agg PktD.zero.cells.toArray, .int .i64 3]) ∧ At w0 F w' := by
 obtain ⟨va, vc, rfl, _, _⟩ := hv.slice
 have hok := Lib.hid (PktD.cells_length PktD.zero_ok)
 obtain ⟨n, hn⟩ : ∃ n, n = b.length := ⟨_, rfl⟩
 rw [← hn] at hb ⊢
 have hb1 : ¬ (n : Int) < 614 ∧ (614 : Int) < n := by omega
 clear hn hv
 go_enter Tryz.func50, Tryz.ntmps50
 go_wp2_with ((with_reducible refine wpList_op rfl ?_); intro _ hK; first
  | (refine dst_is 2 rfl ?_; refine wp_alloc_sl 89 rfl info_pkt H (fun A w' (H : At w0 (raw A PktD.zero.cells.toArray 89 :: F) w') _ => hK _ _ ?_))
  | (refine dst_is 13 rfl ?_; refine Hg.wp_build 89 _ rfl (by rw [Array.toList_map]; rfl) (run_buildL places_pkt [] rfl _) (hK _ _ ?_))
  | (refine dst_is 18 rfl ?_; refine Hg.wp_build 89 _ rfl (by rw [Array.toList_map]; rfl) (run_buildL places_pkt [] rfl _) (hK _ _ ?_))
  | (refine sto_is 2 rfl ?_; refine wp_store_row_sl 89 _ _ rfl (cells := PktD.zero.cells.toArray) rfl rfl (by rw [List.size_toArray, hok.out]; exact size_pkt) (by simpa using PktD.cells_one) 0 H rfl rfl (fun w' (H : At w0 (raw A PktD.zero.cells.toArray 89 :: F) w') => hK _ _ ?_)))
 exact bodyPost_ret (v := .tuple #[.agg PktD.zero.cells.toArray, .int .i64 3]) (results_row_tmp rfl _ rfl (at_blk H 0 rfl) (by kernel_rfl) (by rw [hok.out]; exact size_pkt) rfl) rfl ⟨rfl, H.tail⟩
end Go.Proofs.YtmflbekabkainaaGreatDoor
