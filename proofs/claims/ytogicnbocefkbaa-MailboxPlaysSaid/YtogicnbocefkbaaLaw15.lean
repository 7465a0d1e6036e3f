import Derived.Test.YtogicnbocefkbaaMail
namespace Go.Proofs.Ytogicnbocefkbaa
open Go.RowKit Go.Hg
set_option linter.unusedSimpArgs false
set_option linter.unusedVariables false
def bodyTo (s : ByteArray) (k : Nat) : Body := s.data.toList.take k ++ List.replicate (256 - k) 0
def bodyOf (s : ByteArray) : Body := bodyTo s (min s.size 256)
theorem bodyTo_length (s : ByteArray) (k : Nat) (h : k ≤ s.size) (h2 : k ≤ 256) : (bodyTo s k).length = 256 := by
  have : s.data.toList.length = s.size := rfl
  simp [bodyTo]; omega
theorem bodyOf_length (s : ByteArray) : (bodyOf s).length = 256 := bodyTo_length s _ (Nat.min_le_left _ _) (Nat.min_le_right _ _)
theorem bodyTo_set (s : ByteArray) (k : Nat) (h : k < s.size) (h2 : k < 256) : (bv (bodyTo s k)).setIfInBounds k (.int .u8 (s[k].toNat)) = bv (bodyTo s (k + 1)) := by
  have hl : s.data.toList.length = s.size := rfl
  have e0 : s.data.toList[k]? = some s[k] := by
    rw [List.getElem?_eq_getElem (by omega)]; rfl
  have e1 : s.data.toList.take (k + 1) = s.data.toList.take k ++ [s[k]] := by
    rw [List.take_add_one, e0]; rfl
  have e2 : List.replicate (256 - k) (0 : UInt8) = 0 :: List.replicate (256 - (k + 1)) 0 := by
    rw [show 256 - k = (256 - (k + 1)) + 1 from by omega, List.replicate_succ]
  unfold bv bl bodyTo
  rw [e1, e2]
  apply Array.ext'
  simp only [Array.toList_setIfInBounds, List.map_append, List.map_cons, List.append_assoc]
  have hm : min k s.size = k := by omega
  rw [List.set_append_right _ _ (by simp [hl]; omega)]
  simp [hl, Nat.min_eq_left (Nat.le_of_lt h)]
set_option maxRecDepth 10000 in
set_option maxHeartbeats 400000 in
theorem body_c {w0 w : World} {L : List SP} (H : At w0 L w) (s : ByteArray) (hs : s.size ≤ 9223372036854775807) :
    Calls Try.prog 12 #[.string s] w fun e w' => e = .returned (.agg (bv (bodyOf s))) ∧ At w0 L w' := by
  have hz := zero_body
  have tok1 : True := trivial
  go_enter Try.func12, Try.ntmps12
  go_wp2_with (first | (have _t := tok1; (with_reducible refine wpList_op rfl ?_); intro _ hK; refine wp_alloc_sl (z := .agg (bv zb)) _ rfl info_body H (fun R w' (H : At w0 (raw R (bv zb) 34 :: _) w') _ => hK _ _ ?_); clear tok1 _t) | ((with_reducible refine wpList_op rfl ?_); intro _ hK; refine wp_alloc_sl (z := .agg (bv zb)) _ rfl info_body H (fun B w' (H : At w0 (raw B (bv zb) 34 :: _) w') _ => hK _ _ ?_)) | ((with_reducible refine wpList_op rfl ?_); intro _ hK; refine wp_store_row_sl _ _ _ rfl rfl rfl (by kernel_rfl) (one_bl zb) 0 H rfl rfl fun w' (H : At w0 (raw B (bv zb) 34 :: _) w') => hK _ _ ?_))
  go_loopw [4] (fun i wr => ∃ k : Nat, (k : Int) ≤ 256 ∧ (k : Int) ≤ s.size ∧ i = .int .i64 k ∧ At w0 (raw B (bv (bodyTo s k)) 34 :: raw R (bv zb) 34 :: L) wr) (fun i _ => 256 - (intOf i).toNat)
  case atStart => exact ⟨0, by omega, by omega, rfl, H⟩
  case round =>
    obtain ⟨k, hk1, hk2, rfl, H⟩ := hrel
    by_cases h1 : (k : Int) < s.size
    · by_cases h2 : (k : Int) < 256
      · have hks : k < s.size := by omega
        have hlen := bodyTo_length s k (by omega) (by omega)
        have hset := Lib.hid (bodyTo_set s k hks (by omega))
        go_wp2_with ((with_reducible refine wpList_op rfl ?_); intro _ hK; refine wp_store_sl _ _ _ rfl (v := .int .u8 ((s[k]'hks).toNat)) rfl rfl (by kernel_rfl) rfl 0 H rfl (by rw [bv_size]; omega) fun w' H => hK _ _ ?_)
        go_roundw
        case rel => exact ⟨k + 1, by omega, by omega, by go_num, by rw [hset.out] at H; exact H⟩
        case measure => simp [intOf]; omega
      · have hlen := bodyTo_length s k (by omega) (by omega)
        have he : bodyTo s k = bodyOf s := by unfold bodyOf; congr 1; omega
        have hi2 := Lib.hid (show (Try.prog.info? 34).map (·.size) = some (bv (bodyTo s k)).size by rw [bv_size, hlen]; kernel_rfl)
        have hs2 := Lib.hid (show (bv zb).size = (bv (bodyTo s k)).size by rw [bv_size, bv_size, hlen]; rfl)
        have he2 := Lib.hid he
        clear he
        go_wp2_with (first | ((with_reducible refine wpList_op rfl ?_); intro _ hK; refine wp_load_row_sl _ _ rfl rfl (H.heap 0 rfl) under_body rfl hi2.out (hK _ _ ?_)) | ((with_reducible refine wpList_op rfl ?_); intro _ hK; refine wp_store_row_sl (cells := bv (bodyTo s k)) _ _ _ rfl rfl rfl hi2.out (one_bl _) 1 H rfl hs2.out fun w' H => hK _ _ ?_))
        refine bodyPost_ret (v := .agg (bv (bodyTo s k))) (results_cell_row rfl _ _ R _ _ _ _ rfl (H.heap 1 rfl) under_body rfl hi2.out) rfl ⟨by rw [he2.out], H.tail.tail⟩
    · have hlen := bodyTo_length s k (by omega) (by omega)
      have he : bodyTo s k = bodyOf s := by unfold bodyOf; congr 1; omega
      have hi2 := Lib.hid (show (Try.prog.info? 34).map (·.size) = some (bv (bodyTo s k)).size by rw [bv_size, hlen]; kernel_rfl)
      have hs2 := Lib.hid (show (bv zb).size = (bv (bodyTo s k)).size by rw [bv_size, bv_size, hlen]; rfl)
      have he2 := Lib.hid he
      clear he
      go_wp2_with (first | ((with_reducible refine wpList_op rfl ?_); intro _ hK; refine wp_load_row_sl _ _ rfl rfl (H.heap 0 rfl) under_body rfl hi2.out (hK _ _ ?_)) | ((with_reducible refine wpList_op rfl ?_); intro _ hK; refine wp_store_row_sl (cells := bv (bodyTo s k)) _ _ _ rfl rfl rfl hi2.out (one_bl _) 1 H rfl hs2.out fun w' H => hK _ _ ?_))
      refine bodyPost_ret (v := .agg (bv (bodyTo s k))) (results_cell_row rfl _ _ R _ _ _ _ rfl (H.heap 1 rfl) under_body rfl hi2.out) rfl ⟨by rw [he2.out], H.tail.tail⟩

theorem body_is {w0 w : World} {L : List SP} (H : At w0 L w) (s : ByteArray) (hs : s.size ≤ 9223372036854775807) {A : Body} (hA : A = bodyOf s) :
    Calls Try.prog 12 #[.string s] w fun e w' => e = .returned (.agg (bv A)) ∧ At w0 L w' := by
  subst hA
  exact body_c H s hs
theorem _root_.Go.Hg.At.rows_first {w0 w : World} {L : List SP} {g o c n : Nat} {xs : List Body} {x : Body} (H : At w0 (rows 34 256 (.slice (some ⟨g, o, none⟩) n c) n (bls (x :: xs)) :: L) w) (h : Full (x :: xs)) (hn : n = xs.length + 1) : w.rangeAt g o (bl x) := by
  have h2 := H.rows_elem (i := 0) (by omega)
  have e : elem 256 (bls (x :: xs)) 0 = bl x := by
    have hl := h x (by simp)
    unfold elem
    simp only [Nat.zero_mul, List.drop_zero, bls, List.flatMap_cons]
    rw [List.take_append_of_le_length (by rw [bl_length]; omega), List.take_of_length_le (by rw [bl_length]; omega)]
  rw [e] at h2
  simpa using h2
theorem size_uint8 (w : World) : (sizeOf 5).run Try.prog w = .ok 1 w := by kernel_rfl
theorem under_uint8 : Try.prog.underlying 5 = some (.int .u8) := by kernel_rfl
theorem noguard_body : Try.prog.eqGuardType Try.prog.depth 34 = false := by kernel_rfl
theorem elem_bls {xs : List Body} (h : Full xs) {i : Nat} {x : Body} (hx : xs[i]? = some x) : elem 256 (bls xs) i = bl x := by
  unfold elem
  rw [bls_drop h, show (256 : Nat) = 1 * 256 from rfl, bls_take (h.drop i)]
  have e : (xs.drop i).take 1 = [x] := by
    obtain ⟨hi, rfl⟩ := List.getElem?_eq_some_iff.1 hx
    rw [List.drop_eq_getElem_cons hi]
    rfl
  rw [e]
  simp [bls]

set_option maxRecDepth 10000 in
set_option maxHeartbeats 1000000 in
theorem shown_c {w0 w : World} {L : List SP} (H : At w0 L w) : Calls Try.prog 10 #[] w fun e w' => e = .returned (.bool true) ∧ At w0 L w' := by
  obtain ⟨A, hA⟩ : ∃ A, A = bodyOf ⟨#[97]⟩ := ⟨_, rfl⟩
  obtain ⟨B, hB⟩ : ∃ B, B = bodyOf ⟨#[98]⟩ := ⟨_, rfl⟩
  obtain ⟨C, hC⟩ : ∃ C, C = bodyOf ⟨#[99]⟩ := ⟨_, rfl⟩
  have lA : A.length = 256 := hA ▸ bodyOf_length _
  have lB : B.length = 256 := hB ▸ bodyOf_length _
  have lC : C.length = 256 := hC ▸ bodyOf_length _
  have HA := Lib.hid hA; clear hA
  have HB := Lib.hid hB; clear hB
  have HC := Lib.hid hC; clear hC
  have hM0 := MailOK.new 2
  have hM1 := hM0.put 1 lA
  have hM2 := hM1.put 1 lB
  have hM3 := hM2.put 2 lC
  have hM4 := hM3.fetch 1 1
  have hM5 := hM4.fetch 1 9
  go_enter Try.func10, Try.ntmps10
  go_wp2_with fail
  refine (new_c H 2).mono ?_; rintro e w' ⟨m, rfl, H⟩
  go_wp2_with fail
  refine (body_is H ⟨#[97]⟩ (by decide) HA.out).mono ?_; rintro e w' ⟨rfl, H⟩
  go_wp2_with fail
  refine (put_c H hM0 1 (by omega) (by omega) A lA).mono ?_; rintro e w' ⟨rfl, H⟩
  rw [show putE (newL 2) (Int.toNat 1) = 0 from rfl]
  go_wp2_with fail
  refine (body_is H ⟨#[98]⟩ (by decide) HB.out).mono ?_; rintro e w' ⟨rfl, H⟩
  go_wp2_with fail
  refine (put_c H hM1 1 (by omega) (by omega) B lB).mono ?_; rintro e w' ⟨rfl, H⟩
  rw [show putE (putL (newL 2) (Int.toNat 1) A) (Int.toNat 1) = 0 from rfl]
  go_wp2_with fail
  refine (body_is H ⟨#[99]⟩ (by decide) HC.out).mono ?_; rintro e w' ⟨rfl, H⟩
  go_wp2_with fail
  refine (put_c H hM2 2 (by omega) (by omega) C lC).mono ?_; rintro e w' ⟨rfl, H⟩
  rw [show putE (putL (putL (newL 2) (Int.toNat 1) A) (Int.toNat 1) B) (Int.toNat 2) = 10 from rfl]
  go_wp2_with fail
  refine (fetch_c H hM3 1 (by omega) (by omega) 1).mono ?_; rintro e w' ⟨u1, rfl, H⟩
  replace H : At w0 (rows 34 256 u1 1 (bls [A]) :: mail m [[], [B]] :: L) w' := H
  rw [show fetchE _ (Int.toNat 1) 1 = 0 from rfl]
  go_wp2_with fail
  refine (len_c (H.pull 1 rfl) 1 (by omega) (by omega)).mono ?_; rintro e w' ⟨rfl, rfl⟩
  rw [show ((lenM [[], [B]] (Int.toNat 1) : Nat) : Int) = 1 from rfl]
  go_wp2_with fail
  refine (fetch_c (H.pull 1 rfl) hM4 1 (by omega) (by omega) 9).mono ?_; rintro e w' ⟨u2, rfl, H⟩
  replace H : At w0 (rows 34 256 u2 1 (bls [B]) :: mail m [[], []] :: rows 34 256 u1 1 (bls [A]) :: L) w' := H
  rw [show fetchE _ (Int.toNat 1) 9 = 0 from rfl]
  go_wp2_with fail
  refine (fetch_c (H.pull 1 rfl) hM5 0 (by omega) (by omega) (-1)).mono ?_; rintro e w' ⟨u3, rfl, H⟩
  replace H : At w0 (mail m [[], []] :: rows 34 256 u2 1 (bls [B]) :: rows 34 256 u1 1 (bls [A]) :: L) w' := H.tail
  rw [show fetchE _ (Int.toNat 0) (-1) = 1 from rfl]
  go_wp2_with fail
  have fA : Full [A] := fun x hx => by simp at hx; exact hx ▸ lA
  have fB : Full [B] := fun x hx => by simp at hx; exact hx ▸ lB
  obtain ⟨g1, o1, c1, rfl⟩ : ∃ g o c, u1 = .slice (some ⟨g, o, none⟩) 1 c := by
    rcases (H.pull 2 rfl).rows_value with ⟨_, h, _⟩ | ⟨g, o, c, h, _⟩
    · cases h
    · exact ⟨g, o, c, h⟩
  obtain ⟨g2, o2, c2, rfl⟩ : ∃ g o c, u2 = .slice (some ⟨g, o, none⟩) 1 c := by
    rcases (H.pull 1 rfl).rows_value with ⟨_, h, _⟩ | ⟨g, o, c, h, _⟩
    · cases h
    · exact ⟨g, o, c, h⟩
  refine wpL_begin 55 (At w0 [mail m [[], []], rows 34 256 (.slice (some ⟨g2, o2, none⟩) 1 c2) 1 (bls [B]), rows 34 256 (.slice (some ⟨g1, o1, none⟩) 1 c1) 1 (bls [A])]) [(0, true), (1, true), (2, true), (3, true), (4, true), (5, true), (6, true), (7, true), (8, true), (9, true), (10, true), (11, true), (12, true), (13, true), (14, true), (15, true), (16, true), (17, true), (18, true), (19, true), (20, true), (21, true), (22, true), (23, false), (24, true), (25, true), (26, true), (27, true), (28, true), (29, true), (30, true), (31, true), (32, true), (33, true), (34, true), (35, true), (36, true), (37, true), (38, true), (39, true), (40, true), (41, true), (42, true), (43, false), (44, true), (45, true), (46, true), (47, true), (48, true), (49, true), (50, true), (51, true), (52, false), (53, true), (54, true), (55, false)] rfl (by kernel_rfl) (by kernel_rfl) ((H.drew.mask [true, true, true])) ?_
  intro ops hOps hS
  replace H := H.drew
  refine wpL_take hOps hS rfl (fun _ _ _ h => h) (yl_move rfl _ rfl) ?_
  simp only [Act.put, Act.eval, List.setIfInBounds_toArray, List.set_cons_zero, List.set_cons_succ, Array.getD_eq_getD_getElem?, List.getElem?_toArray, List.getElem?_cons_zero, List.getElem?_cons_succ, Option.getD_some]
  refine wpL_take hOps hS (v := ?vOp32) rfl (fun _ _ _ h => h) (yl rfl ?yOp32) ?_
  case yOp32 => (intro w hw; go_simp; first | done | rfl)
  simp only [Act.put, Act.eval, List.setIfInBounds_toArray, List.set_cons_zero, List.set_cons_succ, Array.getD_eq_getD_getElem?, List.getElem?_toArray, List.getElem?_cons_zero, List.getElem?_cons_succ, Option.getD_some]
  refine wpL_take hOps hS rfl (fun _ _ _ h => h) (yl_move rfl _ rfl) ?_
  simp only [Act.put, Act.eval, List.setIfInBounds_toArray, List.set_cons_zero, List.set_cons_succ, Array.getD_eq_getD_getElem?, List.getElem?_toArray, List.getElem?_cons_zero, List.getElem?_cons_succ, Option.getD_some]
  refine wpL_take hOps hS rfl (fun _ _ _ h => h) (yl_move rfl _ rfl) ?_
  simp only [Act.put, Act.eval, List.setIfInBounds_toArray, List.set_cons_zero, List.set_cons_succ, Array.getD_eq_getD_getElem?, List.getElem?_toArray, List.getElem?_cons_zero, List.getElem?_cons_succ, Option.getD_some]
  refine wpL_take hOps hS (v := ?vOp40) rfl (fun _ _ _ h => h) (yl rfl ?yOp40) ?_
  case yOp40 => (intro w hw; go_simp; first | done | rfl)
  simp only [Act.put, Act.eval, List.setIfInBounds_toArray, List.set_cons_zero, List.set_cons_succ, Array.getD_eq_getD_getElem?, List.getElem?_toArray, List.getElem?_cons_zero, List.getElem?_cons_succ, Option.getD_some]
  refine wpL_take hOps hS (v := ?vOp42) rfl (fun _ _ _ h => h) (yl rfl ?yOp42) ?_
  case yOp42 => (intro w hw; go_simp; first | done | rfl)
  simp only [Act.put, Act.eval, List.setIfInBounds_toArray, List.set_cons_zero, List.set_cons_succ, Array.getD_eq_getD_getElem?, List.getElem?_toArray, List.getElem?_cons_zero, List.getElem?_cons_succ, Option.getD_some]
  refine wpL_take hOps hS rfl (fun _ _ _ h => h) (yl_move rfl _ rfl) ?_
  simp only [Act.put, Act.eval, List.setIfInBounds_toArray, List.set_cons_zero, List.set_cons_succ, Array.getD_eq_getD_getElem?, List.getElem?_toArray, List.getElem?_cons_zero, List.getElem?_cons_succ, Option.getD_some]
  refine wpL_take hOps hS rfl (fun _ _ _ h => h) (yl_move rfl _ rfl) ?_
  simp only [Act.put, Act.eval, List.setIfInBounds_toArray, List.set_cons_zero, List.set_cons_succ, Array.getD_eq_getD_getElem?, List.getElem?_toArray, List.getElem?_cons_zero, List.getElem?_cons_succ, Option.getD_some]
  refine wpL_take hOps hS (v := ?vOp50) rfl (fun _ _ _ h => h) (yl rfl ?yOp50) ?_
  case yOp50 => (intro w hw; go_simp; first | done | rfl)
  simp only [Act.put, Act.eval, List.setIfInBounds_toArray, List.set_cons_zero, List.set_cons_succ, Array.getD_eq_getD_getElem?, List.getElem?_toArray, List.getElem?_cons_zero, List.getElem?_cons_succ, Option.getD_some]
  refine wpL_take hOps hS (v := ?vOp52) rfl (fun _ _ _ h => h) (yl rfl ?yOp52) ?_
  case yOp52 => (intro w hw; go_simp; first | done | rfl)
  simp only [Act.put, Act.eval, List.setIfInBounds_toArray, List.set_cons_zero, List.set_cons_succ, Array.getD_eq_getD_getElem?, List.getElem?_toArray, List.getElem?_cons_zero, List.getElem?_cons_succ, Option.getD_some]
  refine wpL_take hOps hS rfl (fun _ _ _ h => h) (yl_move rfl _ rfl) ?_
  simp only [Act.put, Act.eval, List.setIfInBounds_toArray, List.set_cons_zero, List.set_cons_succ, Array.getD_eq_getD_getElem?, List.getElem?_toArray, List.getElem?_cons_zero, List.getElem?_cons_succ, Option.getD_some]
  refine wpL_take hOps hS rfl (fun _ _ _ h => h) (yl_move rfl _ rfl) ?_
  simp only [Act.put, Act.eval, List.setIfInBounds_toArray, List.set_cons_zero, List.set_cons_succ, Array.getD_eq_getD_getElem?, List.getElem?_toArray, List.getElem?_cons_zero, List.getElem?_cons_succ, Option.getD_some]
  refine wpL_take hOps hS (v := ?vOp60) rfl (fun _ _ _ h => h) (yl rfl ?yOp60) ?_
  case yOp60 => (intro w hw; go_simp; first | done | rfl)
  simp only [Act.put, Act.eval, List.setIfInBounds_toArray, List.set_cons_zero, List.set_cons_succ, Array.getD_eq_getD_getElem?, List.getElem?_toArray, List.getElem?_cons_zero, List.getElem?_cons_succ, Option.getD_some]
  refine wpL_take hOps hS (v := ?vOp62) rfl (fun _ _ _ h => h) (yl rfl ?yOp62) ?_
  case yOp62 => (intro w hw; go_simp; first | done | rfl)
  simp only [Act.put, Act.eval, List.setIfInBounds_toArray, List.set_cons_zero, List.set_cons_succ, Array.getD_eq_getD_getElem?, List.getElem?_toArray, List.getElem?_cons_zero, List.getElem?_cons_succ, Option.getD_some]
  refine wpL_take hOps hS rfl (fun _ _ _ h => h) (yl_move rfl _ rfl) ?_
  simp only [Act.put, Act.eval, List.setIfInBounds_toArray, List.set_cons_zero, List.set_cons_succ, Array.getD_eq_getD_getElem?, List.getElem?_toArray, List.getElem?_cons_zero, List.getElem?_cons_succ, Option.getD_some]
  refine wpL_take hOps hS rfl (fun _ _ _ h => h) (yl_move rfl _ rfl) ?_
  simp only [Act.put, Act.eval, List.setIfInBounds_toArray, List.set_cons_zero, List.set_cons_succ, Array.getD_eq_getD_getElem?, List.getElem?_toArray, List.getElem?_cons_zero, List.getElem?_cons_succ, Option.getD_some]
  refine wpL_take hOps hS (v := ?vOp70) rfl (fun _ _ _ h => h) (yl rfl ?yOp70) ?_
  case yOp70 => (intro w hw; go_simp; first | done | rfl)
  simp only [Act.put, Act.eval, List.setIfInBounds_toArray, List.set_cons_zero, List.set_cons_succ, Array.getD_eq_getD_getElem?, List.getElem?_toArray, List.getElem?_cons_zero, List.getElem?_cons_succ, Option.getD_some]
  refine wpL_take hOps hS (v := ?vOp72) rfl (fun _ _ _ h => h) (yl rfl ?yOp72) ?_
  case yOp72 => (intro w hw; go_simp; first | done | rfl)
  simp only [Act.put, Act.eval, List.setIfInBounds_toArray, List.set_cons_zero, List.set_cons_succ, Array.getD_eq_getD_getElem?, List.getElem?_toArray, List.getElem?_cons_zero, List.getElem?_cons_succ, Option.getD_some]
  refine wpL_take hOps hS (v := ?vOp74) rfl (fun _ _ _ h => h) (yl rfl ?yOp74) ?_
  case yOp74 => (intro w hw; go_simp; first | done | rfl)
  simp only [Act.put, Act.eval, List.setIfInBounds_toArray, List.set_cons_zero, List.set_cons_succ, Array.getD_eq_getD_getElem?, List.getElem?_toArray, List.getElem?_cons_zero, List.getElem?_cons_succ, Option.getD_some]
  refine wpL_take hOps hS rfl (fun _ _ _ h => h) (yl_move rfl _ rfl) ?_
  simp only [Act.put, Act.eval, List.setIfInBounds_toArray, List.set_cons_zero, List.set_cons_succ, Array.getD_eq_getD_getElem?, List.getElem?_toArray, List.getElem?_cons_zero, List.getElem?_cons_succ, Option.getD_some]
  refine wpL_take hOps hS rfl (fun _ _ _ h => h) (yl_move rfl _ rfl) ?_
  simp only [Act.put, Act.eval, List.setIfInBounds_toArray, List.set_cons_zero, List.set_cons_succ, Array.getD_eq_getD_getElem?, List.getElem?_toArray, List.getElem?_cons_zero, List.getElem?_cons_succ, Option.getD_some]
  refine wpL_take hOps hS (v := ?vOp82) rfl (fun _ _ _ h => h) (yl rfl ?yOp82) ?_
  case yOp82 => (intro w hw; go_simp; first | done | rfl)
  simp only [Act.put, Act.eval, List.setIfInBounds_toArray, List.set_cons_zero, List.set_cons_succ, Array.getD_eq_getD_getElem?, List.getElem?_toArray, List.getElem?_cons_zero, List.getElem?_cons_succ, Option.getD_some]
  refine wpL_take hOps hS rfl (fun _ _ _ h => h) (yieldsIf_load_mid rfl _ _ rfl g1 o1 rfl (bl A) _ (fun w (hw : At w0 _ w) => (hw.pull 2 rfl).rows_first fA rfl) under_body rfl (by rw [bl_length, lA]; kernel_rfl)) ?_
  simp only [Act.put, Act.eval, List.setIfInBounds_toArray, List.set_cons_zero, List.set_cons_succ, Array.getD_eq_getD_getElem?, List.getElem?_toArray, List.getElem?_cons_zero, List.getElem?_cons_succ, Option.getD_some]
  refine wpL_next hOps rfl rfl ?_
  intro K hK
  refine wp_call _ _ _ rfl Try.func12 rfl (by kernel_rfl) ?_
  simp only [List.map_toArray, List.map_cons, List.map_nil, Act.eval, Array.getD_eq_getD_getElem?, List.getElem?_toArray, List.getElem?_cons_zero, List.getElem?_cons_succ, Option.getD_some]
  refine (body_is H ⟨#[97]⟩ (by decide) HA.out).mono ?_; rintro e w' ⟨rfl, H⟩
  have hS := (H.mask [true, true, true])
  refine hK _ _ hS ?_
  clear hK K
  simp only [Act.put, Act.eval, List.setIfInBounds_toArray, List.set_cons_zero, List.set_cons_succ, Array.getD_eq_getD_getElem?, List.getElem?_toArray, List.getElem?_cons_zero, List.getElem?_cons_succ, Option.getD_some]
  refine wpL_take hOps hS rfl (fun _ _ _ h => h) (yl rfl fun w _ => exec_eql_bytes rfl rfl rfl under_body under_uint8 size_uint8 noguard_body lA lA) ?_
  simp only [Act.put, Act.eval, List.setIfInBounds_toArray, List.set_cons_zero, List.set_cons_succ, Array.getD_eq_getD_getElem?, List.getElem?_toArray, List.getElem?_cons_zero, List.getElem?_cons_succ, Option.getD_some]
  rw [beq_self_eq_true]
  refine wpL_take hOps hS (v := ?vOp92) rfl (fun _ _ _ h => h) (yl rfl ?yOp92) ?_
  case yOp92 => (intro w hw; go_simp; first | done | rfl)
  simp only [Act.put, Act.eval, List.setIfInBounds_toArray, List.set_cons_zero, List.set_cons_succ, Array.getD_eq_getD_getElem?, List.getElem?_toArray, List.getElem?_cons_zero, List.getElem?_cons_succ, Option.getD_some]
  refine wpL_take hOps hS rfl (fun _ _ _ h => h) (yl_move rfl _ rfl) ?_
  simp only [Act.put, Act.eval, List.setIfInBounds_toArray, List.set_cons_zero, List.set_cons_succ, Array.getD_eq_getD_getElem?, List.getElem?_toArray, List.getElem?_cons_zero, List.getElem?_cons_succ, Option.getD_some]
  refine wpL_take hOps hS rfl (fun _ _ _ h => h) (yl_move rfl _ rfl) ?_
  simp only [Act.put, Act.eval, List.setIfInBounds_toArray, List.set_cons_zero, List.set_cons_succ, Array.getD_eq_getD_getElem?, List.getElem?_toArray, List.getElem?_cons_zero, List.getElem?_cons_succ, Option.getD_some]
  refine wpL_take hOps hS (v := ?vOp100) rfl (fun _ _ _ h => h) (yl rfl ?yOp100) ?_
  case yOp100 => (intro w hw; go_simp; first | done | rfl)
  simp only [Act.put, Act.eval, List.setIfInBounds_toArray, List.set_cons_zero, List.set_cons_succ, Array.getD_eq_getD_getElem?, List.getElem?_toArray, List.getElem?_cons_zero, List.getElem?_cons_succ, Option.getD_some]
  refine wpL_take hOps hS (v := ?vOp102) rfl (fun _ _ _ h => h) (yl rfl ?yOp102) ?_
  case yOp102 => (intro w hw; go_simp; first | done | rfl)
  simp only [Act.put, Act.eval, List.setIfInBounds_toArray, List.set_cons_zero, List.set_cons_succ, Array.getD_eq_getD_getElem?, List.getElem?_toArray, List.getElem?_cons_zero, List.getElem?_cons_succ, Option.getD_some]
  refine wpL_take hOps hS rfl (fun _ _ _ h => h) (yl_move rfl _ rfl) ?_
  simp only [Act.put, Act.eval, List.setIfInBounds_toArray, List.set_cons_zero, List.set_cons_succ, Array.getD_eq_getD_getElem?, List.getElem?_toArray, List.getElem?_cons_zero, List.getElem?_cons_succ, Option.getD_some]
  refine wpL_take hOps hS rfl (fun _ _ _ h => h) (yl_move rfl _ rfl) ?_
  simp only [Act.put, Act.eval, List.setIfInBounds_toArray, List.set_cons_zero, List.set_cons_succ, Array.getD_eq_getD_getElem?, List.getElem?_toArray, List.getElem?_cons_zero, List.getElem?_cons_succ, Option.getD_some]
  refine wpL_take hOps hS (v := ?vOp110) rfl (fun _ _ _ h => h) (yl rfl ?yOp110) ?_
  case yOp110 => (intro w hw; go_simp; first | done | rfl)
  simp only [Act.put, Act.eval, List.setIfInBounds_toArray, List.set_cons_zero, List.set_cons_succ, Array.getD_eq_getD_getElem?, List.getElem?_toArray, List.getElem?_cons_zero, List.getElem?_cons_succ, Option.getD_some]
  refine wpL_take hOps hS (v := ?vOp112) rfl (fun _ _ _ h => h) (yl rfl ?yOp112) ?_
  case yOp112 => (intro w hw; go_simp; first | done | rfl)
  simp only [Act.put, Act.eval, List.setIfInBounds_toArray, List.set_cons_zero, List.set_cons_succ, Array.getD_eq_getD_getElem?, List.getElem?_toArray, List.getElem?_cons_zero, List.getElem?_cons_succ, Option.getD_some]
  refine wpL_take hOps hS rfl (fun _ _ _ h => h) (yl_move rfl _ rfl) ?_
  simp only [Act.put, Act.eval, List.setIfInBounds_toArray, List.set_cons_zero, List.set_cons_succ, Array.getD_eq_getD_getElem?, List.getElem?_toArray, List.getElem?_cons_zero, List.getElem?_cons_succ, Option.getD_some]
  refine wpL_take hOps hS rfl (fun _ _ _ h => h) (yl_move rfl _ rfl) ?_
  simp only [Act.put, Act.eval, List.setIfInBounds_toArray, List.set_cons_zero, List.set_cons_succ, Array.getD_eq_getD_getElem?, List.getElem?_toArray, List.getElem?_cons_zero, List.getElem?_cons_succ, Option.getD_some]
  refine wpL_take hOps hS (v := ?vOp120) rfl (fun _ _ _ h => h) (yl rfl ?yOp120) ?_
  case yOp120 => (intro w hw; go_simp; first | done | rfl)
  simp only [Act.put, Act.eval, List.setIfInBounds_toArray, List.set_cons_zero, List.set_cons_succ, Array.getD_eq_getD_getElem?, List.getElem?_toArray, List.getElem?_cons_zero, List.getElem?_cons_succ, Option.getD_some]
  refine wpL_take hOps hS (v := ?vOp122) rfl (fun _ _ _ h => h) (yl rfl ?yOp122) ?_
  case yOp122 => (intro w hw; go_simp; first | done | rfl)
  simp only [Act.put, Act.eval, List.setIfInBounds_toArray, List.set_cons_zero, List.set_cons_succ, Array.getD_eq_getD_getElem?, List.getElem?_toArray, List.getElem?_cons_zero, List.getElem?_cons_succ, Option.getD_some]
  refine wpL_take hOps hS (v := ?vOp124) rfl (fun _ _ _ h => h) (yl rfl ?yOp124) ?_
  case yOp124 => (intro w hw; go_simp; first | done | rfl)
  simp only [Act.put, Act.eval, List.setIfInBounds_toArray, List.set_cons_zero, List.set_cons_succ, Array.getD_eq_getD_getElem?, List.getElem?_toArray, List.getElem?_cons_zero, List.getElem?_cons_succ, Option.getD_some]
  refine wpL_take hOps hS rfl (fun _ _ _ h => h) (yl_move rfl _ rfl) ?_
  simp only [Act.put, Act.eval, List.setIfInBounds_toArray, List.set_cons_zero, List.set_cons_succ, Array.getD_eq_getD_getElem?, List.getElem?_toArray, List.getElem?_cons_zero, List.getElem?_cons_succ, Option.getD_some]
  refine wpL_take hOps hS rfl (fun _ _ _ h => h) (yl_move rfl _ rfl) ?_
  simp only [Act.put, Act.eval, List.setIfInBounds_toArray, List.set_cons_zero, List.set_cons_succ, Array.getD_eq_getD_getElem?, List.getElem?_toArray, List.getElem?_cons_zero, List.getElem?_cons_succ, Option.getD_some]
  refine wpL_take hOps hS (v := ?vOp132) rfl (fun _ _ _ h => h) (yl rfl ?yOp132) ?_
  case yOp132 => (intro w hw; go_simp; first | done | rfl)
  simp only [Act.put, Act.eval, List.setIfInBounds_toArray, List.set_cons_zero, List.set_cons_succ, Array.getD_eq_getD_getElem?, List.getElem?_toArray, List.getElem?_cons_zero, List.getElem?_cons_succ, Option.getD_some]
  refine wpL_take hOps hS rfl (fun _ _ _ h => h) (yieldsIf_load_mid rfl _ _ rfl g2 o2 rfl (bl B) _ (fun w (hw : At w0 _ w) => (hw.pull 1 rfl).rows_first fB rfl) under_body rfl (by rw [bl_length, lB]; kernel_rfl)) ?_
  simp only [Act.put, Act.eval, List.setIfInBounds_toArray, List.set_cons_zero, List.set_cons_succ, Array.getD_eq_getD_getElem?, List.getElem?_toArray, List.getElem?_cons_zero, List.getElem?_cons_succ, Option.getD_some]
  refine wpL_next hOps rfl rfl ?_
  intro K hK
  refine wp_call _ _ _ rfl Try.func12 rfl (by kernel_rfl) ?_
  simp only [List.map_toArray, List.map_cons, List.map_nil, Act.eval, Array.getD_eq_getD_getElem?, List.getElem?_toArray, List.getElem?_cons_zero, List.getElem?_cons_succ, Option.getD_some]
  refine (body_is H ⟨#[98]⟩ (by decide) HB.out).mono ?_; rintro e w' ⟨rfl, H⟩
  have hS := (H.mask [true, true, true])
  refine hK _ _ hS ?_
  clear hK K
  simp only [Act.put, Act.eval, List.setIfInBounds_toArray, List.set_cons_zero, List.set_cons_succ, Array.getD_eq_getD_getElem?, List.getElem?_toArray, List.getElem?_cons_zero, List.getElem?_cons_succ, Option.getD_some]
  refine wpL_take hOps hS rfl (fun _ _ _ h => h) (yl rfl fun w _ => exec_eql_bytes rfl rfl rfl under_body under_uint8 size_uint8 noguard_body lB lB) ?_
  simp only [Act.put, Act.eval, List.setIfInBounds_toArray, List.set_cons_zero, List.set_cons_succ, Array.getD_eq_getD_getElem?, List.getElem?_toArray, List.getElem?_cons_zero, List.getElem?_cons_succ, Option.getD_some]
  rw [beq_self_eq_true]
  refine wpL_take hOps hS (v := ?vOp142) rfl (fun _ _ _ h => h) (yl rfl ?yOp142) ?_
  case yOp142 => (intro w hw; go_simp; first | done | rfl)
  simp only [Act.put, Act.eval, List.setIfInBounds_toArray, List.set_cons_zero, List.set_cons_succ, Array.getD_eq_getD_getElem?, List.getElem?_toArray, List.getElem?_cons_zero, List.getElem?_cons_succ, Option.getD_some]
  refine wpL_take hOps hS rfl (fun _ _ _ h => h) (yl_move rfl _ rfl) ?_
  simp only [Act.put, Act.eval, List.setIfInBounds_toArray, List.set_cons_zero, List.set_cons_succ, Array.getD_eq_getD_getElem?, List.getElem?_toArray, List.getElem?_cons_zero, List.getElem?_cons_succ, Option.getD_some]
  refine wpL_take hOps hS rfl (fun _ _ _ h => h) (yl_move rfl _ rfl) ?_
  simp only [Act.put, Act.eval, List.setIfInBounds_toArray, List.set_cons_zero, List.set_cons_succ, Array.getD_eq_getD_getElem?, List.getElem?_toArray, List.getElem?_cons_zero, List.getElem?_cons_succ, Option.getD_some]
  refine wpL_take hOps hS (v := ?vOp150) rfl (fun _ _ _ h => h) (yl rfl ?yOp150) ?_
  case yOp150 => (intro w hw; go_simp; first | done | rfl)
  simp only [Act.put, Act.eval, List.setIfInBounds_toArray, List.set_cons_zero, List.set_cons_succ, Array.getD_eq_getD_getElem?, List.getElem?_toArray, List.getElem?_cons_zero, List.getElem?_cons_succ, Option.getD_some]
  refine wpL_take hOps hS (v := ?vOp152) rfl (fun _ _ _ h => h) (yl rfl ?yOp152) ?_
  case yOp152 => (intro w hw; go_simp; first | done | rfl)
  simp only [Act.put, Act.eval, List.setIfInBounds_toArray, List.set_cons_zero, List.set_cons_succ, Array.getD_eq_getD_getElem?, List.getElem?_toArray, List.getElem?_cons_zero, List.getElem?_cons_succ, Option.getD_some]
  refine wpL_take hOps hS rfl (fun _ _ _ h => h) (yl_move rfl _ rfl) ?_
  simp only [Act.put, Act.eval, List.setIfInBounds_toArray, List.set_cons_zero, List.set_cons_succ, Array.getD_eq_getD_getElem?, List.getElem?_toArray, List.getElem?_cons_zero, List.getElem?_cons_succ, Option.getD_some]
  refine wpL_take hOps hS rfl (fun _ _ _ h => h) (yl_move rfl _ rfl) ?_
  simp only [Act.put, Act.eval, List.setIfInBounds_toArray, List.set_cons_zero, List.set_cons_succ, Array.getD_eq_getD_getElem?, List.getElem?_toArray, List.getElem?_cons_zero, List.getElem?_cons_succ, Option.getD_some]
  refine wpL_next hOps rfl rfl ?_
  intro K hK
  refine wp_call _ _ _ rfl Try.func17 rfl (by kernel_rfl) ?_
  simp only [List.map_toArray, List.map_cons, List.map_nil, Act.eval, Array.getD_eq_getD_getElem?, List.getElem?_toArray, List.getElem?_cons_zero, List.getElem?_cons_succ, Option.getD_some]
  refine (len_c H 1 (by omega) (by omega)).mono ?_; rintro e w' ⟨rfl, rfl⟩
  rw [show ((lenM [[], []] (Int.toNat 1) : Nat) : Int) = 0 from rfl]
  have hS := (H.mask [true, true, true])
  refine hK _ _ hS ?_
  clear hK K
  simp only [Act.put, Act.eval, List.setIfInBounds_toArray, List.set_cons_zero, List.set_cons_succ, Array.getD_eq_getD_getElem?, List.getElem?_toArray, List.getElem?_cons_zero, List.getElem?_cons_succ, Option.getD_some]
  refine wpL_take hOps hS (v := ?vOp164) rfl (fun _ _ _ h => h) (yl rfl ?yOp164) ?_
  case yOp164 => (intro w hw; go_simp; first | done | rfl)
  simp only [Act.put, Act.eval, List.setIfInBounds_toArray, List.set_cons_zero, List.set_cons_succ, Array.getD_eq_getD_getElem?, List.getElem?_toArray, List.getElem?_cons_zero, List.getElem?_cons_succ, Option.getD_some]
  refine wpL_take hOps hS (v := ?vOp166) rfl (fun _ _ _ h => h) (yl rfl ?yOp166) ?_
  case yOp166 => (intro w hw; go_simp; first | done | rfl)
  simp only [Act.put, Act.eval, List.setIfInBounds_toArray, List.set_cons_zero, List.set_cons_succ, Array.getD_eq_getD_getElem?, List.getElem?_toArray, List.getElem?_cons_zero, List.getElem?_cons_succ, Option.getD_some]
  refine wpL_last hOps rfl rfl ?_
  intro K hK
  refine wp_run (v := .bool true) rfl ?_
  refine hK _ _ ?_
  clear hK K hOps hS ops
  simp only [Act.put, Act.eval, List.setIfInBounds_toArray, List.set_cons_zero, List.set_cons_succ, Array.getD_eq_getD_getElem?, List.getElem?_toArray, List.getElem?_cons_zero, List.getElem?_cons_succ, Option.getD_some]
  go_wp2
  go_ret
  exact ⟨rfl, H.tail.tail.tail⟩
end Go.Proofs.Ytogicnbocefkbaa
