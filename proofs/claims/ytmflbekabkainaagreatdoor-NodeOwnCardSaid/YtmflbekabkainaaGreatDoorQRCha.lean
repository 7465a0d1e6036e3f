import Derived.Test.YtmflbekabkainaaGreatDoorQRSum
import Derived.Test.YtmflbekabkainaaGreatDoorQChb
set_option linter.unusedVariables false
set_option linter.unusedSimpArgs false
namespace Go.Proofs.YtmflbekabkainaaGreatDoor
open Go.RowKit Go.Hg
theorem run_stake {t : TypeId} (ht : Tryz.prog.underlying t = some .string) {l : List (BitVec 8)} {j : Nat} {J : Int} (hJ : J = (j : Int)) (h2 : j ≤ l.length) (w : World) : (Instr.slice t (.string (sB l)) none (some (.int .i64 J)) none).run Tryz.prog w = .ok (.string (sB (l.take j))) w := by
 subst hJ
 have h := run_slice_string_h (P := Tryz.prog) w t (sB l) ht .i64 (j : Int) (by omega) (by rw [sB_size]; omega)
 rw [h]
 simp [sB_extract _ _ _ h2]
theorem le4_be4 (a b c d : BitVec 8) : le4 a b c d = be4 d c b a := by
 unfold le4 be4
 rw [BitVec.or_comm (_ ||| _) (d.setWidth 32 <<< 24), BitVec.or_comm (_ ||| _) (c.setWidth 32 <<< 16), BitVec.or_comm (a.setWidth 32), ← BitVec.or_assoc, ← BitVec.or_assoc]
theorem low_num (a b c d : BitVec 8) : IntKind.u32.wrap (IntKind.u32.wrap (IntKind.u32.wrap (iv a + IntKind.u32.wrap (iv b * 256)) + IntKind.u32.wrap (iv c * 65536)) + IntKind.u32.wrap (iv d * 16777216)) = iv (le4 a b c d) := by
 rw [le4_be4, ← deN4]
 have e2 : deN [d, c, b, a] = d.toNat * 16777216 + c.toNat * 65536 + b.toNat * 256 + a.toNat := by
  show (((0 * 256 + d.toNat) * 256 + c.toNat) * 256 + b.toNat) * 256 + a.toNat = _
  omega
 rw [e2]
 simp only [IntKind.wrap_u32]
 unfold iv
 omega
theorem iv8_wrap32 (z : BitVec 8) : IntKind.u32.wrap (iv z) = iv z := by
 have := z.isLt
 rw [IntKind.wrap_u32]
 unfold iv
 omega
attribute [local go_sem] iv_add32 iv_xor32 iv_and32 iv_wrap32 iv8_wrap32
theorem four {l : List (BitVec 8)} (h : l.length = 4) : l[0]? = some (gb l 0) ∧ l[1]? = some (gb l 1) ∧ l[2]? = some (gb l 2) ∧ l[3]? = some (gb l 3) := ⟨gb_get (by omega), gb_get (by omega), gb_get (by omega), gb_get (by omega)⟩
set_option maxRecDepth 10000 in
set_option maxHeartbeats 1000000 in
theorem RLow_c {w0 w : World} {F : List SP} {l : List (BitVec 8)} (H : At w0 F w) (hl : l.length = 4) : Calls Tryz.prog 137 #[.string (sB l)] w fun r w' => r = .returned (.int .u32 (iv (le4 (gb l 0) (gb l 1) (gb l 2) (gb l 3)))) ∧ At w0 F w' := by
 have HL := Lib.hid (four hl)
 clear hl
 obtain ⟨a, ha⟩ : ∃ a, a = gb l 0 := ⟨_, rfl⟩
 obtain ⟨b, hb⟩ : ∃ a, a = gb l 1 := ⟨_, rfl⟩
 obtain ⟨c, hc⟩ : ∃ a, a = gb l 2 := ⟨_, rfl⟩
 obtain ⟨d, hd⟩ : ∃ a, a = gb l 3 := ⟨_, rfl⟩
 rw [← ha, ← hb, ← hc, ← hd] at HL ⊢
 clear ha hb hc hd
 go_enter Tryz.func137, Tryz.ntmps137
 go_wp2_with fail
 refine wpM_begin [] ((At w0 F)) [(0, 2), (1, 2), (2, 2), (3, 2), (4, 2), (5, 2), (6, 2), (7, 2), (8, 2), (9, 2), (10, 2), (11, 2), (12, 2), (13, 2), (14, 2), (15, 2), (16, 2), (17, 2), (18, 0)] rfl (by kernel_rfl) (by kernel_rfl) ((H.drew)) ?_
 intro ops hOps hS
 replace H := H.drew
 refine fm hOps ?_
 refine wpM_free hOps rfl (fun _ _ _ h => h) (yl rfl (fun w _ => exec_sidx (n := 0) (b := a) rfl under_strT rfl rfl HL.out.1 w)) ?_
 simp only [nrm]
 iterate 2 refine fm hOps ?_
 refine wpM_free hOps rfl (fun _ _ _ h => h) (yl rfl (fun w _ => exec_sidx (n := 1) (b := b) rfl under_strT rfl rfl HL.out.2.1 w)) ?_
 simp only [nrm]
 iterate 4 refine fm hOps ?_
 refine wpM_free hOps rfl (fun _ _ _ h => h) (yl rfl (fun w _ => exec_sidx (n := 2) (b := c) rfl under_strT rfl rfl HL.out.2.2.1 w)) ?_
 simp only [nrm]
 iterate 4 refine fm hOps ?_
 refine wpM_free hOps rfl (fun _ _ _ h => h) (yl rfl (fun w _ => exec_sidx (n := 3) (b := d) rfl under_strT rfl rfl HL.out.2.2.2 w)) ?_
 simp only [nrm]
 iterate 3 refine fm hOps ?_
 refine wpM_next hOps rfl rfl ?_
 intro K hK
 refine wp_run rfl ?_
 have hS := (hS)
 refine hK _ _ (.inr hS) ?_
 clear hK K
 simp only [nrm]
 refine wpM_end ?_
 clear hOps hS ops
 go_wp2_with fail
 go_ret
 exact ⟨congrArg (fun z => Ending.returned (Value.int IntKind.u32 z)) (low_num a b c d), H⟩
theorem left_eq (x : BitVec 32) (k : Nat) (h : k < 32) (h0 : 0 < k) {C D : Int} (hC : C = ((2 ^ k : Nat) : Int)) (hD : D = ((2 ^ (32 - k) : Nat) : Int)) :
    IntKind.u32.wrap (IntKind.u32.wrap (iv x * C) + IntKind.u32.wrap ((iv x).tdiv D)) = iv (rl x k) := by
 subst hC hD
 have hx := x.isLt
 have hr := rr_toNat x (32 - k) (by omega)
 have e : rr x (32 - k) = rl x k := by unfold rr; rw [show 32 - (32 - k) = k by omega]
 rw [e, show 32 - (32 - k) = k by omega] at hr
 have hl := (rl x k).isLt
 have h1 : (iv x).tdiv ((2 ^ (32 - k) : Nat) : Int) = ((x.toNat / 2 ^ (32 - k) : Nat) : Int) := by unfold iv; rw [Int.tdiv_eq_ediv_of_nonneg (by omega)]; rfl
 have h3 : iv x * ((2 ^ k : Nat) : Int) = ((x.toNat * 2 ^ k : Nat) : Int) := by unfold iv; push_cast; rfl
 have h4 : x.toNat * 2 ^ k % 2 ^ 32 = x.toNat % 2 ^ (32 - k) * 2 ^ k := by
  rw [pow_le32 (32 - k) (by omega), show 32 - (32 - k) = k by omega, Nat.mul_mod_mul_right]
 have e32 : (2 : Nat) ^ 32 = 4294967296 := by decide
 rw [e32] at hl h4
 rw [h1, h3, IntKind.wrap_u32, IntKind.wrap_u32, IntKind.wrap_u32]
 generalize x.toNat * 2 ^ k = A at h4
 generalize x.toNat % 2 ^ (32 - k) * 2 ^ k = A2 at hr h4
 generalize x.toNat / 2 ^ (32 - k) = B at hr
 unfold iv
 rw [hr] at hl ⊢
 omega
set_option maxRecDepth 10000 in
set_option maxHeartbeats 1000000 in
theorem RLeft16_c {w0 w : World} {F : List SP} {x : BitVec 32} (H : At w0 F w) : Calls Tryz.prog 156 #[.int .u32 (iv x), .int .i64 16] w fun r w' => r = .returned (.int .u32 (iv (rl x 16))) ∧ At w0 F w' := by
 go_enter Tryz.func156, Tryz.ntmps156
 go_wp2_with fail
 refine wpM_begin [] ((At w0 F)) [(0, 2), (1, 2), (2, 2), (3, 2), (4, 2), (5, 2), (6, 2), (7, 2), (8, 2), (9, 2), (10, 0)] rfl (by kernel_rfl) (by kernel_rfl) ((H.drew)) ?_
 intro ops hOps hS
 replace H := H.drew
 iterate 10 refine fm hOps ?_
 refine wpM_next hOps rfl rfl ?_
 intro K hK
 refine wp_run rfl ?_
 have hS := (hS)
 refine hK _ _ (.inr hS) ?_
 clear hK K
 simp only [nrm]
 refine wpM_end ?_
 clear hOps hS ops
 go_wp2_with fail
 go_ret
 exact ⟨congrArg (fun z => Ending.returned (Value.int IntKind.u32 z)) (left_eq x 16 (by omega) (by omega) (by decide) (by decide)), H⟩
set_option maxRecDepth 10000 in
set_option maxHeartbeats 1000000 in
theorem RLeft12_c {w0 w : World} {F : List SP} {x : BitVec 32} (H : At w0 F w) : Calls Tryz.prog 156 #[.int .u32 (iv x), .int .i64 12] w fun r w' => r = .returned (.int .u32 (iv (rl x 12))) ∧ At w0 F w' := by
 go_enter Tryz.func156, Tryz.ntmps156
 go_wp2_with fail
 refine wpM_begin [] ((At w0 F)) [(0, 2), (1, 2), (2, 2), (3, 2), (4, 2), (5, 2), (6, 2), (7, 2), (8, 2), (9, 2), (10, 0)] rfl (by kernel_rfl) (by kernel_rfl) ((H.drew)) ?_
 intro ops hOps hS
 replace H := H.drew
 iterate 10 refine fm hOps ?_
 refine wpM_next hOps rfl rfl ?_
 intro K hK
 refine wp_run rfl ?_
 have hS := (hS)
 refine hK _ _ (.inr hS) ?_
 clear hK K
 simp only [nrm]
 refine wpM_end ?_
 clear hOps hS ops
 go_wp2_with fail
 go_ret
 exact ⟨congrArg (fun z => Ending.returned (Value.int IntKind.u32 z)) (left_eq x 12 (by omega) (by omega) (by decide) (by decide)), H⟩
set_option maxRecDepth 10000 in
set_option maxHeartbeats 1000000 in
theorem RLeft8_c {w0 w : World} {F : List SP} {x : BitVec 32} (H : At w0 F w) : Calls Tryz.prog 156 #[.int .u32 (iv x), .int .i64 8] w fun r w' => r = .returned (.int .u32 (iv (rl x 8))) ∧ At w0 F w' := by
 go_enter Tryz.func156, Tryz.ntmps156
 go_wp2_with fail
 refine wpM_begin [] ((At w0 F)) [(0, 2), (1, 2), (2, 2), (3, 2), (4, 2), (5, 2), (6, 2), (7, 2), (8, 2), (9, 2), (10, 0)] rfl (by kernel_rfl) (by kernel_rfl) ((H.drew)) ?_
 intro ops hOps hS
 replace H := H.drew
 iterate 10 refine fm hOps ?_
 refine wpM_next hOps rfl rfl ?_
 intro K hK
 refine wp_run rfl ?_
 have hS := (hS)
 refine hK _ _ (.inr hS) ?_
 clear hK K
 simp only [nrm]
 refine wpM_end ?_
 clear hOps hS ops
 go_wp2_with fail
 go_ret
 exact ⟨congrArg (fun z => Ending.returned (Value.int IntKind.u32 z)) (left_eq x 8 (by omega) (by omega) (by decide) (by decide)), H⟩
set_option maxRecDepth 10000 in
set_option maxHeartbeats 1000000 in
theorem RLeft7_c {w0 w : World} {F : List SP} {x : BitVec 32} (H : At w0 F w) : Calls Tryz.prog 156 #[.int .u32 (iv x), .int .i64 7] w fun r w' => r = .returned (.int .u32 (iv (rl x 7))) ∧ At w0 F w' := by
 go_enter Tryz.func156, Tryz.ntmps156
 go_wp2_with fail
 refine wpM_begin [] ((At w0 F)) [(0, 2), (1, 2), (2, 2), (3, 2), (4, 2), (5, 2), (6, 2), (7, 2), (8, 2), (9, 2), (10, 0)] rfl (by kernel_rfl) (by kernel_rfl) ((H.drew)) ?_
 intro ops hOps hS
 replace H := H.drew
 iterate 10 refine fm hOps ?_
 refine wpM_next hOps rfl rfl ?_
 intro K hK
 refine wp_run rfl ?_
 have hS := (hS)
 refine hK _ _ (.inr hS) ?_
 clear hK K
 simp only [nrm]
 refine wpM_end ?_
 clear hOps hS ops
 go_wp2_with fail
 go_ret
 exact ⟨congrArg (fun z => Ending.returned (Value.int IntKind.u32 z)) (left_eq x 7 (by omega) (by omega) (by decide) (by decide)), H⟩
set_option maxRecDepth 10000 in
set_option maxHeartbeats 2000000 in
theorem RQuarter_c {w0 w : World} {F : List SP} {v : Value} {xs : List (BitVec 32)} {a b c d : Nat} (H : At w0 F w) (q : Nat) (hq : F[q]? = some (lrow 36 1 c32 v xs)) (hl : 16 = xs.length) (ha : (a : Int) < 16) (hb : (b : Int) < 16) (hc : (c : Int) < 16) (hd : (d : Int) < 16) :
    Calls Tryz.prog 138 #[v, .int .i64 (a : Int), .int .i64 (b : Int), .int .i64 (c : Int), .int .i64 (d : Int)] w fun r w' => ∃ g off p, r = .returned (.slice (some ⟨g, off, none⟩) 16 p) ∧ At w0 (lrow 36 1 c32 (.slice (some ⟨g, off, none⟩) 16 p) (quarterQ xs a b c d) :: F) w' := by
 have HLxs := Lib.hid hl
 have HQ := Lib.hid hq
 have HP := H.pull q hq
 unfold lrow at HP
 obtain ⟨av, aq, rfl⟩ := At.rows_slice HP
 clear HP
 clear hl hq
 go_enter Tryz.func138, Tryz.ntmps138
 go_wp2_with ((with_reducible refine wpList_op rfl ?_); intro _ hK; first
  | (refine dst_is 12 rfl ?_; refine wp_lnew el_w32 245 under_u32s rfl H (fun B2 w' H => hK _ _ ?_))
  | (refine dst_is 14 rfl ?_; refine wp_lapp_all el_w32 245 under_u32s _ _ rfl rfl H rfl q HQ.out (by rw [← HLxs.out]; simp [maxLen]) (by rw [← HLxs.out]; simp) (fun vb vr w' H => ?_); rw [List.nil_append, ← HLxs.out] at H ⊢; refine hK _ _ (Stop.go ?_)))
 refine Stop.un ?_
 obtain ⟨g, off, rfl⟩ := place_of HLxs.out H 0 rfl (by omega)
 go_wp2_with fail
 have lp := Lib.hid (show a < xs.length by have := ha; have := HLxs.out; omega)
 have lq := Lib.hid (show b < xs.length by have := hb; have := HLxs.out; omega)
 obtain ⟨x1, Ex1⟩ : ∃ Y, Y = xs.set a (gw xs a + gw xs b) := ⟨_, rfl⟩
 have HEx1 := Lib.hid Ex1
 have HLx1 := Lib.hid (show 16 = x1.length by rw [Ex1, List.length_set]; exact HLxs.out)
 clear Ex1
 refine wpM_begin [12] ((At w0 (lrow 36 1 c32 (.slice (some ⟨g, off, none⟩) 16 vr) xs :: F))) [(0, 2), (1, 2), (2, 2), (3, 2), (4, 2), (5, 1), (6, 2), (7, 2), (8, 2), (9, 1), (10, 2), (11, 2), (12, 0)] rfl (by kernel_rfl) (by kernel_rfl) ((H.drew)) ?_
 intro ops hOps hS
 replace H := H.drew
 iterate 5 refine fm hOps ?_
 refine tm hOps hS (fun w hw => w32_at HLxs.out hw 0 rfl lp.out) ?_
 iterate 3 refine fm hOps ?_
 refine tm hOps hS (fun w hw => w32_at HLxs.out hw 0 rfl lq.out) ?_
 iterate 2 refine fm hOps ?_
 refine wpM_next hOps rfl rfl ?_
 intro K hK
 refine wp_set32 _ _ rfl HLxs.out (z := gw xs a + gw xs b) rfl rfl H lp.out (fun w' H => ?_)
 rw [← HEx1.out] at H
 refine hK _ _ (.inl (by decide)) ?_
 clear hK K
 simp only [nrm]
 refine wpM_end ?_
 clear hOps hS ops
 clear lp lq
 go_wp2_with fail
 have lp := Lib.hid (show d < x1.length by have := hd; have := HLx1.out; omega)
 have lq := Lib.hid (show a < x1.length by have := ha; have := HLx1.out; omega)
 obtain ⟨x2, Ex2⟩ : ∃ Y, Y = x1.set d (rl (gw x1 d ^^^ gw x1 a) 16) := ⟨_, rfl⟩
 have HEx2 := Lib.hid Ex2
 have HLx2 := Lib.hid (show 16 = x2.length by rw [Ex2, List.length_set]; exact HLx1.out)
 clear Ex2
 refine wpM_begin [13] ((At w0 (lrow 36 1 c32 (.slice (some ⟨g, off, none⟩) 16 vr) x1 :: F))) [(0, 2), (1, 2), (2, 2), (3, 2), (4, 2), (5, 1), (6, 2), (7, 2), (8, 2), (9, 1), (10, 2), (11, 0), (12, 2), (13, 0)] rfl (by kernel_rfl) (by kernel_rfl) ((H.drew)) ?_
 intro ops hOps hS
 replace H := H.drew
 iterate 5 refine fm hOps ?_
 refine tm hOps hS (fun w hw => w32_at HLx1.out hw 0 rfl lp.out) ?_
 iterate 3 refine fm hOps ?_
 refine tm hOps hS (fun w hw => w32_at HLx1.out hw 0 rfl lq.out) ?_
 refine fm hOps ?_
 refine wpM_next hOps rfl rfl ?_
 intro K hK
 refine wp_call _ _ _ rfl Tryz.func156 rfl (by kernel_rfl) ?_
 simp only [List.map_toArray, List.map_cons, List.map_nil, Act.eval, Array.getD_eq_getD_getElem?, List.getElem?_toArray, List.getElem?_cons_zero, List.getElem?_cons_succ, Option.getD_some]
 refine (RLeft16_c H).mono ?_; rintro e w' ⟨rfl, H⟩
 have hS := (H)
 refine hK _ _ (.inr hS) ?_
 clear hK K
 simp only [nrm]
 refine fm hOps ?_
 refine wpM_next hOps rfl rfl ?_
 intro K hK
 refine wp_set32 _ _ rfl HLx1.out (z := rl (gw x1 d ^^^ gw x1 a) 16) rfl rfl H lp.out (fun w' H => ?_)
 rw [← HEx2.out] at H
 refine hK _ _ (.inl (by decide)) ?_
 clear hK K
 simp only [nrm]
 refine wpM_end ?_
 clear hOps hS ops
 clear lp lq
 go_wp2_with fail
 have lp := Lib.hid (show c < x2.length by have := hc; have := HLx2.out; omega)
 have lq := Lib.hid (show d < x2.length by have := hd; have := HLx2.out; omega)
 obtain ⟨x3, Ex3⟩ : ∃ Y, Y = x2.set c (gw x2 c + gw x2 d) := ⟨_, rfl⟩
 have HEx3 := Lib.hid Ex3
 have HLx3 := Lib.hid (show 16 = x3.length by rw [Ex3, List.length_set]; exact HLx2.out)
 clear Ex3
 refine wpM_begin [12] ((At w0 (lrow 36 1 c32 (.slice (some ⟨g, off, none⟩) 16 vr) x2 :: F))) [(0, 2), (1, 2), (2, 2), (3, 2), (4, 2), (5, 1), (6, 2), (7, 2), (8, 2), (9, 1), (10, 2), (11, 2), (12, 0)] rfl (by kernel_rfl) (by kernel_rfl) ((H.drew)) ?_
 intro ops hOps hS
 replace H := H.drew
 iterate 5 refine fm hOps ?_
 refine tm hOps hS (fun w hw => w32_at HLx2.out hw 0 rfl lp.out) ?_
 iterate 3 refine fm hOps ?_
 refine tm hOps hS (fun w hw => w32_at HLx2.out hw 0 rfl lq.out) ?_
 iterate 2 refine fm hOps ?_
 refine wpM_next hOps rfl rfl ?_
 intro K hK
 refine wp_set32 _ _ rfl HLx2.out (z := gw x2 c + gw x2 d) rfl rfl H lp.out (fun w' H => ?_)
 rw [← HEx3.out] at H
 refine hK _ _ (.inl (by decide)) ?_
 clear hK K
 simp only [nrm]
 refine wpM_end ?_
 clear hOps hS ops
 clear lp lq
 go_wp2_with fail
 have lp := Lib.hid (show b < x3.length by have := hb; have := HLx3.out; omega)
 have lq := Lib.hid (show c < x3.length by have := hc; have := HLx3.out; omega)
 obtain ⟨x4, Ex4⟩ : ∃ Y, Y = x3.set b (rl (gw x3 b ^^^ gw x3 c) 12) := ⟨_, rfl⟩
 have HEx4 := Lib.hid Ex4
 have HLx4 := Lib.hid (show 16 = x4.length by rw [Ex4, List.length_set]; exact HLx3.out)
 clear Ex4
 refine wpM_begin [13] ((At w0 (lrow 36 1 c32 (.slice (some ⟨g, off, none⟩) 16 vr) x3 :: F))) [(0, 2), (1, 2), (2, 2), (3, 2), (4, 2), (5, 1), (6, 2), (7, 2), (8, 2), (9, 1), (10, 2), (11, 0), (12, 2), (13, 0)] rfl (by kernel_rfl) (by kernel_rfl) ((H.drew)) ?_
 intro ops hOps hS
 replace H := H.drew
 iterate 5 refine fm hOps ?_
 refine tm hOps hS (fun w hw => w32_at HLx3.out hw 0 rfl lp.out) ?_
 iterate 3 refine fm hOps ?_
 refine tm hOps hS (fun w hw => w32_at HLx3.out hw 0 rfl lq.out) ?_
 refine fm hOps ?_
 refine wpM_next hOps rfl rfl ?_
 intro K hK
 refine wp_call _ _ _ rfl Tryz.func156 rfl (by kernel_rfl) ?_
 simp only [List.map_toArray, List.map_cons, List.map_nil, Act.eval, Array.getD_eq_getD_getElem?, List.getElem?_toArray, List.getElem?_cons_zero, List.getElem?_cons_succ, Option.getD_some]
 refine (RLeft12_c H).mono ?_; rintro e w' ⟨rfl, H⟩
 have hS := (H)
 refine hK _ _ (.inr hS) ?_
 clear hK K
 simp only [nrm]
 refine fm hOps ?_
 refine wpM_next hOps rfl rfl ?_
 intro K hK
 refine wp_set32 _ _ rfl HLx3.out (z := rl (gw x3 b ^^^ gw x3 c) 12) rfl rfl H lp.out (fun w' H => ?_)
 rw [← HEx4.out] at H
 refine hK _ _ (.inl (by decide)) ?_
 clear hK K
 simp only [nrm]
 refine wpM_end ?_
 clear hOps hS ops
 clear lp lq
 go_wp2_with fail
 have lp := Lib.hid (show a < x4.length by have := ha; have := HLx4.out; omega)
 have lq := Lib.hid (show b < x4.length by have := hb; have := HLx4.out; omega)
 obtain ⟨x5, Ex5⟩ : ∃ Y, Y = x4.set a (gw x4 a + gw x4 b) := ⟨_, rfl⟩
 have HEx5 := Lib.hid Ex5
 have HLx5 := Lib.hid (show 16 = x5.length by rw [Ex5, List.length_set]; exact HLx4.out)
 clear Ex5
 refine wpM_begin [12] ((At w0 (lrow 36 1 c32 (.slice (some ⟨g, off, none⟩) 16 vr) x4 :: F))) [(0, 2), (1, 2), (2, 2), (3, 2), (4, 2), (5, 1), (6, 2), (7, 2), (8, 2), (9, 1), (10, 2), (11, 2), (12, 0)] rfl (by kernel_rfl) (by kernel_rfl) ((H.drew)) ?_
 intro ops hOps hS
 replace H := H.drew
 iterate 5 refine fm hOps ?_
 refine tm hOps hS (fun w hw => w32_at HLx4.out hw 0 rfl lp.out) ?_
 iterate 3 refine fm hOps ?_
 refine tm hOps hS (fun w hw => w32_at HLx4.out hw 0 rfl lq.out) ?_
 iterate 2 refine fm hOps ?_
 refine wpM_next hOps rfl rfl ?_
 intro K hK
 refine wp_set32 _ _ rfl HLx4.out (z := gw x4 a + gw x4 b) rfl rfl H lp.out (fun w' H => ?_)
 rw [← HEx5.out] at H
 refine hK _ _ (.inl (by decide)) ?_
 clear hK K
 simp only [nrm]
 refine wpM_end ?_
 clear hOps hS ops
 clear lp lq
 go_wp2_with fail
 have lp := Lib.hid (show d < x5.length by have := hd; have := HLx5.out; omega)
 have lq := Lib.hid (show a < x5.length by have := ha; have := HLx5.out; omega)
 obtain ⟨x6, Ex6⟩ : ∃ Y, Y = x5.set d (rl (gw x5 d ^^^ gw x5 a) 8) := ⟨_, rfl⟩
 have HEx6 := Lib.hid Ex6
 have HLx6 := Lib.hid (show 16 = x6.length by rw [Ex6, List.length_set]; exact HLx5.out)
 clear Ex6
 refine wpM_begin [13] ((At w0 (lrow 36 1 c32 (.slice (some ⟨g, off, none⟩) 16 vr) x5 :: F))) [(0, 2), (1, 2), (2, 2), (3, 2), (4, 2), (5, 1), (6, 2), (7, 2), (8, 2), (9, 1), (10, 2), (11, 0), (12, 2), (13, 0)] rfl (by kernel_rfl) (by kernel_rfl) ((H.drew)) ?_
 intro ops hOps hS
 replace H := H.drew
 iterate 5 refine fm hOps ?_
 refine tm hOps hS (fun w hw => w32_at HLx5.out hw 0 rfl lp.out) ?_
 iterate 3 refine fm hOps ?_
 refine tm hOps hS (fun w hw => w32_at HLx5.out hw 0 rfl lq.out) ?_
 refine fm hOps ?_
 refine wpM_next hOps rfl rfl ?_
 intro K hK
 refine wp_call _ _ _ rfl Tryz.func156 rfl (by kernel_rfl) ?_
 simp only [List.map_toArray, List.map_cons, List.map_nil, Act.eval, Array.getD_eq_getD_getElem?, List.getElem?_toArray, List.getElem?_cons_zero, List.getElem?_cons_succ, Option.getD_some]
 refine (RLeft8_c H).mono ?_; rintro e w' ⟨rfl, H⟩
 have hS := (H)
 refine hK _ _ (.inr hS) ?_
 clear hK K
 simp only [nrm]
 refine fm hOps ?_
 refine wpM_next hOps rfl rfl ?_
 intro K hK
 refine wp_set32 _ _ rfl HLx5.out (z := rl (gw x5 d ^^^ gw x5 a) 8) rfl rfl H lp.out (fun w' H => ?_)
 rw [← HEx6.out] at H
 refine hK _ _ (.inl (by decide)) ?_
 clear hK K
 simp only [nrm]
 refine wpM_end ?_
 clear hOps hS ops
 clear lp lq
 go_wp2_with fail
 have lp := Lib.hid (show c < x6.length by have := hc; have := HLx6.out; omega)
 have lq := Lib.hid (show d < x6.length by have := hd; have := HLx6.out; omega)
 obtain ⟨x7, Ex7⟩ : ∃ Y, Y = x6.set c (gw x6 c + gw x6 d) := ⟨_, rfl⟩
 have HEx7 := Lib.hid Ex7
 have HLx7 := Lib.hid (show 16 = x7.length by rw [Ex7, List.length_set]; exact HLx6.out)
 clear Ex7
 refine wpM_begin [12] ((At w0 (lrow 36 1 c32 (.slice (some ⟨g, off, none⟩) 16 vr) x6 :: F))) [(0, 2), (1, 2), (2, 2), (3, 2), (4, 2), (5, 1), (6, 2), (7, 2), (8, 2), (9, 1), (10, 2), (11, 2), (12, 0)] rfl (by kernel_rfl) (by kernel_rfl) ((H.drew)) ?_
 intro ops hOps hS
 replace H := H.drew
 iterate 5 refine fm hOps ?_
 refine tm hOps hS (fun w hw => w32_at HLx6.out hw 0 rfl lp.out) ?_
 iterate 3 refine fm hOps ?_
 refine tm hOps hS (fun w hw => w32_at HLx6.out hw 0 rfl lq.out) ?_
 iterate 2 refine fm hOps ?_
 refine wpM_next hOps rfl rfl ?_
 intro K hK
 refine wp_set32 _ _ rfl HLx6.out (z := gw x6 c + gw x6 d) rfl rfl H lp.out (fun w' H => ?_)
 rw [← HEx7.out] at H
 refine hK _ _ (.inl (by decide)) ?_
 clear hK K
 simp only [nrm]
 refine wpM_end ?_
 clear hOps hS ops
 clear lp lq
 go_wp2_with fail
 have lp := Lib.hid (show b < x7.length by have := hb; have := HLx7.out; omega)
 have lq := Lib.hid (show c < x7.length by have := hc; have := HLx7.out; omega)
 obtain ⟨x8, Ex8⟩ : ∃ Y, Y = x7.set b (rl (gw x7 b ^^^ gw x7 c) 7) := ⟨_, rfl⟩
 have HEx8 := Lib.hid Ex8
 have HLx8 := Lib.hid (show 16 = x8.length by rw [Ex8, List.length_set]; exact HLx7.out)
 clear Ex8
 refine wpM_begin [13] ((At w0 (lrow 36 1 c32 (.slice (some ⟨g, off, none⟩) 16 vr) x7 :: F))) [(0, 2), (1, 2), (2, 2), (3, 2), (4, 2), (5, 1), (6, 2), (7, 2), (8, 2), (9, 1), (10, 2), (11, 0), (12, 2), (13, 0)] rfl (by kernel_rfl) (by kernel_rfl) ((H.drew)) ?_
 intro ops hOps hS
 replace H := H.drew
 iterate 5 refine fm hOps ?_
 refine tm hOps hS (fun w hw => w32_at HLx7.out hw 0 rfl lp.out) ?_
 iterate 3 refine fm hOps ?_
 refine tm hOps hS (fun w hw => w32_at HLx7.out hw 0 rfl lq.out) ?_
 refine fm hOps ?_
 refine wpM_next hOps rfl rfl ?_
 intro K hK
 refine wp_call _ _ _ rfl Tryz.func156 rfl (by kernel_rfl) ?_
 simp only [List.map_toArray, List.map_cons, List.map_nil, Act.eval, Array.getD_eq_getD_getElem?, List.getElem?_toArray, List.getElem?_cons_zero, List.getElem?_cons_succ, Option.getD_some]
 refine (RLeft7_c H).mono ?_; rintro e w' ⟨rfl, H⟩
 have hS := (H)
 refine hK _ _ (.inr hS) ?_
 clear hK K
 simp only [nrm]
 refine fm hOps ?_
 refine wpM_next hOps rfl rfl ?_
 intro K hK
 refine wp_set32 _ _ rfl HLx7.out (z := rl (gw x7 b ^^^ gw x7 c) 7) rfl rfl H lp.out (fun w' H => ?_)
 rw [← HEx8.out] at H
 refine hK _ _ (.inl (by decide)) ?_
 clear hK K
 simp only [nrm]
 refine wpM_end ?_
 clear hOps hS ops
 clear lp lq
 go_wp2_with fail
 go_ret
 refine ⟨g, off, vr, rfl, ?_⟩
 have e : x8 = quarterQ xs a b c d := by rw [HEx8.out, HEx7.out, HEx6.out, HEx5.out, HEx4.out, HEx3.out, HEx2.out, HEx1.out]; rfl
 rw [← e]
 exact H
set_option maxRecDepth 10000 in
set_option maxHeartbeats 1000000 in
theorem RTurned_c {w0 w : World} {F : List SP} {l : List (BitVec 8)} (H : At w0 F w) (hl : l.length ≤ 100000) : Calls Tryz.prog 136 #[.string (sB l)] w fun r w' => r = .returned (.string (sB l.reverse)) ∧ At w0 F w' := by
 obtain ⟨n, hn⟩ : ∃ n, n = l.length := ⟨_, rfl⟩
 have hsz : (sB l).size = n := by rw [sB_size, hn]
 have HN := Lib.hid hn
 have HS := Lib.hid (show n ≤ 100000 by omega)
 clear hn hl
 go_enter Tryz.func136, Tryz.ntmps136
 go_wp2_with fail
 go_loopw [3, 4] (fun s i wr => ∃ c : Nat, c ≤ n ∧ s = .string (sB (l.take c).reverse) ∧ i = .int .i64 (c : Int) ∧ At w0 F wr) (fun _ i _ => n - (intOf i).toNat)
 case atStart => exact ⟨0, by omega, rfl, rfl, H⟩
 case round =>
  clear H
  obtain ⟨c, hcn, rfl, rfl, H⟩ := hrel
  by_cases hc : c < n
  · have hlt : (c : Int) < (n : Int) := by omega
    have ew : IntKind.i64.wrap ((c : Int) + 1) = ((c + 1 : Nat) : Int) := by rw [IntKind.wrap_i64]; have := HS.out; omega
    obtain ⟨x, hx⟩ : ∃ x, l[c]? = some x := ⟨_, List.getElem?_eq_getElem (by rw [← HN.out]; exact hc)⟩
    obtain ⟨Z, hZ⟩ : ∃ Z, Z = (l.take c).reverse := ⟨_, rfl⟩
    have hnx := Lib.hid (show [x] ++ Z = (l.take (c + 1)).reverse by rw [hZ, List.take_add_one, hx]; simp)
    have hpt := Lib.hid (show (l.take (c + 1)).drop c = [x] by
     rw [List.take_add_one, hx, List.drop_append_of_le_length (by rw [List.length_take, ← HN.out]; omega), List.drop_of_length_le (by rw [List.length_take]; omega)]; rfl)
    have hZl := Lib.hid (show Z.length ≤ 100000 by rw [hZ, List.length_reverse, List.length_take]; have := HS.out; omega)
    have h1 := Lib.hid (show c + 1 ≤ l.length by rw [← HN.out]; omega)
    rw [← hZ]
    clear hx hZ
    go_wp2_with ((with_reducible refine wpList_op rfl ?_); intro _ hK; first
     | (refine dst_is 15 rfl ?_; refine wp_slice 9 _ _ _ _ rfl (run_spart under_strT (i := c) (j := c + 1) (by omega) h1.out _) ?_; rw [hpt.out]; refine hK _ _ ?_)
     | (refine dst_is 17 rfl ?_; refine wp_sadd _ _ _ _ rfl (u := [x]) (v := Z) rfl rfl (by simp; have := hZl.out; omega) ?_; rw [hnx.out]; refine hK _ _ ?_))
    first
     | (refine ⟨?_, ?measure⟩; iterate 220 (try apply Exists.intro); refine ⟨?rel, rfl⟩)
     | refine ⟨?rel, ?measure⟩
    case rel => exact ⟨c + 1, by omega, rfl, by go_num, H⟩
    case measure => simp [intOf]; omega
  · obtain rfl : c = n := by omega
    have hlt : ¬ (c : Int) < (c : Int) := by omega
    have hf := Lib.hid (show l.take c = l by rw [HN.out, List.take_length])
    rw [hf.out]
    go_wp2_with fail
    go_ret
    exact ⟨rfl, H⟩
theorem wordsL_get {bs : List (BitVec 8)} {i : Nat} (h : 4 * i + 4 ≤ bs.length) : (wordsL bs)[i]? = some (le4 (gb bs (4 * i)) (gb bs (4 * i + 1)) (gb bs (4 * i + 2)) (gb bs (4 * i + 3))) := by
 unfold wordsL
 rw [List.getElem?_map, List.getElem?_range (by omega)]
 rfl
theorem gb_left {a b : List (BitVec 8)} {i : Nat} (h : i < a.length) : gb (a ++ b) i = gb a i := by
 unfold gb
 rw [List.getD_eq_getElem?_getD, List.getD_eq_getElem?_getD, List.getElem?_append_left h]
theorem gb_right {a b : List (BitVec 8)} {n i : Nat} (h : a.length = n) : gb (a ++ b) (n + i) = gb b i := by
 unfold gb
 rw [List.getD_eq_getElem?_getD, List.getD_eq_getElem?_getD, List.getElem?_append_right (by omega), h, Nat.add_sub_cancel_left]
theorem wordsL_append {a b : List (BitVec 8)} (k m : Nat) (ha : a.length = 4 * k) (hb : b.length = 4 * m) : wordsL (a ++ b) = wordsL a ++ wordsL b := by
 have la : (wordsL a).length = k := by rw [wordsL_length, ha]; omega
 have lb : (wordsL b).length = m := by rw [wordsL_length, hb]; omega
 have lab : (wordsL (a ++ b)).length = k + m := by rw [wordsL_length, List.length_append, ha, hb]; omega
 apply List.ext_getElem?
 intro i
 by_cases h1 : i < k
 · rw [List.getElem?_append_left (by omega), wordsL_get (by rw [List.length_append]; omega), wordsL_get (by omega), gb_left (by omega), gb_left (by omega), gb_left (by omega), gb_left (by omega)]
 · rw [List.getElem?_append_right (by omega), la]
   by_cases h2 : i < k + m
   · rw [wordsL_get (by rw [List.length_append]; omega), wordsL_get (by omega)]
     have e : ∀ x, 4 * i + x = 4 * k + (4 * (i - k) + x) := by omega
     have e0 : 4 * i = 4 * k + (4 * (i - k)) := by omega
     rw [e 1, e 2, e 3, e0, gb_right ha, gb_right ha, gb_right ha, gb_right ha]
   · rw [List.getElem?_eq_none (by omega), List.getElem?_eq_none (by omega)]
theorem wordsL_four (e d b a : BitVec 8) : wordsL [e, d, b, a] = [le4 e d b a] := by
 have h := wordsL_get (bs := [e, d, b, a]) (i := 0) (by simp)
 have l : (wordsL [e, d, b, a]).length = 1 := by rw [wordsL_length]; simp
 match hw : wordsL [e, d, b, a], l with
 | [x], _ => rw [hw] at h; simpa [gb] using h
def expandB : List (BitVec 8) := [101, 120, 112, 97, 110, 100, 32, 51, 50, 45, 98, 121, 116, 101, 32, 107]
theorem word_of {c : Nat} (hc : c < 4294967296) : wordsL (beN 4 c).reverse = [BitVec.ofNat 32 c] := by
 have h4 : ∃ a b d e, beN 4 c = [a, b, d, e] := ⟨_, _, _, _, rfl⟩
 obtain ⟨a, b, d, e, h⟩ := h4
 have h1 := deN4 a b d e
 rw [← h, deN_beN_lt (by omega)] at h1
 rw [h, show ([a, b, d, e] : List (BitVec 8)).reverse = [e, d, b, a] from rfl, wordsL_four, le4_be4]
 congr 1
 rw [IntKind.wrap_u32] at h1
 apply BitVec.eq_of_toNat_eq
 rw [BitVec.toNat_ofNat]
 unfold iv at h1
 omega
theorem allB {key nonce : List (BitVec 8)} {c : Nat} (hk : key.length = 32) (hn : nonce.length = 12) (hc : c < 4294967296) : wordsL (expandB ++ key ++ (beN 4 c).reverse ++ nonce) = firstS key (BitVec.ofNat 32 c) nonce := by
 rw [wordsL_append 13 3 (by simp [expandB, hk, beN_length]) hn, wordsL_append 12 1 (by simp [expandB, hk]) (by simp [beN_length]), wordsL_append 4 8 rfl hk, word_of hc]
 rfl
theorem quadB {A : List (BitVec 8)} {j : Nat} (h : 4 * j + 4 ≤ A.length) : ((A.take (4 * j + 4)).drop (4 * j)).length = 4 ∧ ∀ k, k < 4 → gb ((A.take (4 * j + 4)).drop (4 * j)) k = gb A (4 * j + k) := by
 refine ⟨by rw [List.length_drop, List.length_take]; omega, fun k hk => ?_⟩
 unfold gb
 rw [List.getD_eq_getElem?_getD, List.getD_eq_getElem?_getD, List.getElem?_drop, List.getElem?_take, if_pos (by omega)]
theorem outL_beN (x : BitVec 32) : (beN 4 x.toNat).reverse = outL x := by
 rw [out4_beN]
 rfl
theorem quart_a {k : Nat} (hk : k < 4) : quartersL[k]? = some (k, 4 + k, 8 + k, 12 + k) := by
 match k, hk with
 | 0, _ => rfl
 | 1, _ => rfl
 | 2, _ => rfl
 | 3, _ => rfl
theorem quart_facts {k : Nat} (hk : k < 4) : ∃ n1 n2 n3 r1 r2 r3 b cc d : Nat, n1 = k + 1 ∧ (k : Int) + 1 = (n1 : Int) ∧ (k : Int) + 2 = (n2 : Int) ∧ (k : Int) + 3 = (n3 : Int) ∧ IntKind.i64.wrap (n1 : Int) = (n1 : Int) ∧ IntKind.i64.wrap (n2 : Int) = (n2 : Int) ∧ IntKind.i64.wrap (n3 : Int) = (n3 : Int) ∧
    (n1 : Int).tmod 4 = (r1 : Int) ∧ (n2 : Int).tmod 4 = (r2 : Int) ∧ (n3 : Int).tmod 4 = (r3 : Int) ∧ IntKind.i64.wrap (r1 : Int) = (r1 : Int) ∧ IntKind.i64.wrap (r2 : Int) = (r2 : Int) ∧ IntKind.i64.wrap (r3 : Int) = (r3 : Int) ∧
    (4 : Int) + (r1 : Int) = (b : Int) ∧ IntKind.i64.wrap (b : Int) = (b : Int) ∧ (8 : Int) + (r2 : Int) = (cc : Int) ∧ IntKind.i64.wrap (cc : Int) = (cc : Int) ∧ (12 : Int) + (r3 : Int) = (d : Int) ∧ IntKind.i64.wrap (d : Int) = (d : Int) ∧ quartersL[4 + k]? = some (k, b, cc, d) ∧ (k : Int) < 16 ∧ (b : Int) < 16 ∧ (cc : Int) < 16 ∧ (d : Int) < 16 := by
 match k, hk with
 | 0, _ => exact ⟨1, 2, 3, 1, 2, 3, 5, 10, 15, rfl, rfl, rfl, rfl, rfl, rfl, rfl, rfl, rfl, rfl, rfl, rfl, rfl, rfl, rfl, rfl, rfl, rfl, rfl, rfl, by decide, by decide, by decide, by decide⟩
 | 1, _ => exact ⟨2, 3, 4, 2, 3, 0, 6, 11, 12, rfl, rfl, rfl, rfl, rfl, rfl, rfl, rfl, rfl, rfl, rfl, rfl, rfl, rfl, rfl, rfl, rfl, rfl, rfl, rfl, by decide, by decide, by decide, by decide⟩
 | 2, _ => exact ⟨3, 4, 5, 3, 0, 1, 7, 8, 13, rfl, rfl, rfl, rfl, rfl, rfl, rfl, rfl, rfl, rfl, rfl, rfl, rfl, rfl, rfl, rfl, rfl, rfl, rfl, rfl, by decide, by decide, by decide, by decide⟩
 | 3, _ => exact ⟨4, 5, 6, 0, 1, 2, 4, 9, 14, rfl, rfl, rfl, rfl, rfl, rfl, rfl, rfl, rfl, rfl, rfl, rfl, rfl, rfl, rfl, rfl, rfl, rfl, rfl, rfl, by decide, by decide, by decide, by decide⟩
theorem zip_out {rs fs : List (BitVec 32)} {j : Nat} (h1 : j < rs.length) (h2 : j < fs.length) : ((List.zipWith (· + ·) rs fs).take j).flatMap outL ++ outL (gw rs j + gw fs j) = ((List.zipWith (· + ·) rs fs).take (j + 1)).flatMap outL := by
 rw [List.take_add_one, List.getElem?_zipWith, gw_get h1, gw_get h2, List.flatMap_append]
 simp
set_option maxRecDepth 10000 in
set_option maxHeartbeats 4000000 in
theorem RBlock_c {w0 w : World} {F : List SP} {key nonce : List (BitVec 8)} {cn : Nat} (H : At w0 F w) (hk : key.length = 32) (hn : nonce.length = 12) (hcn : cn < 4294967296) :
    Calls Tryz.prog 126 #[.string (sB key), .int .u32 (cn : Int), .string (sB nonce)] w fun r w' => r = .returned (.string (sB (blockOf key (BitVec.ofNat 32 cn) nonce))) ∧ At w0 F w' := by
 have HK := Lib.hid hk
 have HN := Lib.hid hn
 have HC := Lib.hid hcn
 have ew : IntKind.u64.wrap (cn : Int) = (cn : Int) := by rw [IntKind.wrap_u64]; omega
 have hstr := Lib.hid (show (⟨#[101, 120, 112, 97, 110, 100, 32, 51, 50, 45, 98, 121, 116, 101, 32, 107]⟩ : ByteArray) = sB expandB by rfl)
 obtain ⟨fs, hfs⟩ : ∃ f, f = firstS key (BitVec.ofNat 32 cn) nonce := ⟨_, rfl⟩
 obtain ⟨A, hA⟩ : ∃ A, A = expandB ++ key ++ (beN 4 cn).reverse ++ nonce := ⟨_, rfl⟩
 have hwA := Lib.hid (show wordsL A = fs by rw [hA, hfs]; exact allB hk hn hcn)
 have hAl := Lib.hid (show A.length = 64 by rw [hA]; simp [expandB, hk, hn, beN_length])
 have hfl := Lib.hid (show fs.length = 16 by rw [hfs]; exact firstS_length hk hn _)
 have hres := Lib.hid (show blockOf key (BitVec.ofNat 32 cn) nonce = ((List.zipWith (· + ·) (roundsR fs 10) fs).take 16).flatMap outL by
  rw [List.take_of_length_le (by rw [List.length_zipWith, roundsR_length]; have := hfl.out; omega), hfs]
  rfl)
 have HA := Lib.hid hA
 rw [hres.out]
 clear hfs hA hk hn hcn
 go_enter Tryz.func126, Tryz.ntmps126
 go_wp2_with ((with_reducible refine wpList_op rfl ?_); intro _ hK; first
  | (refine dst_is 17 rfl ?_; refine wp_sadd _ _ _ _ rfl (u := expandB) (v := key) (congrArg Value.string hstr.out) rfl (by rw [HK.out]; simp [expandB]) (hK _ _ ?_)))
 refine (RText_c (n := cn) (k := 4) H (by have := HC.out; omega) (by omega)).mono ?_; rintro e w' ⟨rfl, H⟩
 go_wp2_with fail
 refine (RTurned_c (l := beN 4 cn) H (by rw [beN_length]; omega)).mono ?_; rintro e w' ⟨rfl, H⟩
 go_wp2_with ((with_reducible refine wpList_op rfl ?_); intro _ hK; first
  | (refine dst_is 22 rfl ?_; refine wp_sadd _ _ _ _ rfl (u := expandB ++ key) (v := (beN 4 cn).reverse) rfl rfl (by simp [expandB, HK.out, beN_length]) (hK _ _ ?_))
  | (refine dst_is 24 rfl ?_; refine wp_sadd _ _ _ _ rfl (u := expandB ++ key ++ (beN 4 cn).reverse) (v := nonce) rfl rfl (by simp [expandB, HK.out, HN.out, beN_length]) ?_; rw [← HA.out]; refine hK _ _ ?_)
  | (refine dst_is 25 rfl ?_; refine wp_lnew el_w32 245 under_u32s rfl H (fun B2 w' H => hK _ _ (Stop.go ?_))))
 refine Stop.un ?_
 go_wp2_with fail
 go_loopw [8, 9] (fun v i wr => ∃ (j : Nat) (b : Option Addr) (q : Nat), j ≤ 16 ∧ v = .slice b j q ∧ i = .int .i64 ((4 * j : Nat) : Int) ∧ At w0 (lrow 36 1 c32 (.slice b j q) (fs.take j) :: F) wr) (fun _ i _ => 64 - (intOf i).toNat)
 case atStart => exact ⟨0, _, _, by omega, rfl, rfl, H⟩
 case round =>
  clear H
  obtain ⟨j, b, q, hj, rfl, rfl, H⟩ := hrel
  obtain ⟨p, hp⟩ : ∃ p, p = 4 * j := ⟨_, rfl⟩
  rw [← hp]
  have hlen := Lib.hid (show (fs.take j).length = j by rw [List.length_take, hfl.out]; omega)
  by_cases hj16 : j < 16
  · as_aux_lemma =>
      have hlt : (p : Int) < 64 := by omega
      obtain ⟨p4, hp4⟩ : ∃ x, x = p + 4 := ⟨_, rfl⟩
      have m1 : (p : Int) + 4 = (p4 : Int) := by omega
      have m2 : IntKind.i64.wrap (p4 : Int) = (p4 : Int) := by rw [IntKind.wrap_i64]; omega
      obtain ⟨hq4, hqg⟩ := quadB (A := A) (j := j) (by rw [hAl.out]; omega)
      rw [show 4 * j + 4 = p4 by omega, ← hp] at hq4 hqg
      obtain ⟨Q, hQ⟩ : ∃ Q, Q = (A.take p4).drop p := ⟨_, rfl⟩
      rw [← hQ] at hq4 hqg
      have HQ := Lib.hid hQ
      have HQ4 := Lib.hid hq4
      have hle := Lib.hid (show le4 (gb Q 0) (gb Q 1) (gb Q 2) (gb Q 3) = gw fs j by
       rw [hqg 0 (by omega), hqg 1 (by omega), hqg 2 (by omega), hqg 3 (by omega), hp, ← hwA.out]
       exact (gw_of (wordsL_get (by rw [hAl.out]; omega))).symm)
      have hpA := Lib.hid (show p4 ≤ A.length by rw [hAl.out]; omega)
      have hpp := Lib.hid (show p ≤ p4 by omega)
      have hsn := Lib.hid (show fs.take j ++ [gw fs j] = fs.take (j + 1) by rw [List.take_add_one, gw_get (by rw [hfl.out]; omega)]; rfl)
      have hp5 := Lib.hid (show p4 = 4 * (j + 1) by omega)
      have hlen2 := Lib.hid (show (fs.take (j + 1)).length = j + 1 by rw [List.length_take, hfl.out]; omega)
      clear hp4 hp hQ hq4 hqg
      go_wp2_with ((with_reducible refine wpList_op rfl ?_); intro _ hK; first
       | (refine dst_is 35 rfl ?_; refine wp_slice 9 _ _ _ _ rfl (run_spart under_strT (i := p) (j := p4) hpp.out hpA.out _) ?_; rw [← HQ.out]; refine hK _ _ ?_))
      refine (RLow_c (l := Q) H HQ4.out).mono ?_; rintro e w' ⟨rfl, H⟩
      rw [hle.out]
      go_wp2_with ((with_reducible refine wpList_op rfl ?_); intro _ hK; first
       | (refine dst_is 37 rfl ?_; refine wp_lbuild el_w32 (y := gw fs j) 245 under_u32s _ rfl rfl rfl (by omega) (by omega) H (fun C w' H => hK _ _ ?_))
       | (refine dst_is 38 rfl ?_; refine wp_lapp_one el_w32 (xs := fs.take j) (y := gw fs j) 245 under_u32s _ _ rfl rfl (H.pull 1 rfl) rfl 0 rfl rfl (by rw [hlen.out]; simp [maxLen]; omega) (by rw [hlen.out]; omega) (fun a2 p2 w' H => ?_); rw [hsn.out, hlen2.out] at H ⊢; replace H := H.maskR [true, false]; refine hK _ _ ?_))
      first
       | (refine ⟨?_, ?measure⟩; iterate 220 (try apply Exists.intro); refine ⟨?rel, rfl⟩)
       | refine ⟨?rel, ?measure⟩
      case rel => exact ⟨j + 1, a2, p2, by omega, rfl, by rw [hp5.out], H⟩
      case measure => have := hp5.out; simp [intOf]; omega
  · as_aux_lemma =>
      obtain rfl : j = 16 := by omega
      obtain rfl : p = 64 := hp
      have hlt : ¬ ((64 : Nat) : Int) < 64 := by omega
      have hf16 := Lib.hid (show fs.take 16 = fs by rw [← hfl.out, List.take_length])
      rw [hf16.out] at H
      have hfl2 := Lib.hid (show 16 = fs.length from hfl.out.symm)
      obtain ⟨g, off, rfl⟩ := place_of hfl2.out H 0 rfl (by omega)
      clear hj hj16 hlen
      go_wp2_with ((with_reducible refine wpList_op rfl ?_); intro _ hK; first
       | (refine dst_is 39 rfl ?_; refine wp_lnew el_w32 245 under_u32s rfl H (fun B2 w' H => hK _ _ ?_))
       | (refine dst_is 41 rfl ?_; refine wp_lapp_all el_w32 245 under_u32s _ _ rfl rfl H rfl 0 rfl (by rw [← hfl2.out]; simp [maxLen]) (by rw [← hfl2.out]; simp) (fun vb vr w' H => ?_); rw [List.nil_append, ← hfl2.out] at H ⊢; refine hK _ _ (Stop.go ?_)))
      refine Stop.un ?_
      go_wp2_with fail
      go_loopw [10, 11] (fun v i wr => ∃ (c : Nat) (a2 : Option Addr) (q2 : Nat), c ≤ 10 ∧ v = .slice a2 16 q2 ∧ i = .int .i64 (c : Int) ∧ At w0 (lrow 36 1 c32 (.slice a2 16 q2) (roundsR fs c) :: lrow 36 1 c32 (.slice (some ⟨g, off, none⟩) 16 q) fs :: F) wr) (fun _ i _ => 10 - (intOf i).toNat)
      case atStart => exact ⟨0, _, _, by omega, rfl, rfl, H⟩
      case round =>
       clear H
       obtain ⟨c, a2, q2, hc, rfl, rfl, H⟩ := hrel
       obtain ⟨R, hR⟩ : ∃ R, R = roundsR fs c := ⟨_, rfl⟩
       rw [← hR] at H
       have HR := Lib.hid hR
       have hRl := Lib.hid (show R.length = 16 by rw [hR, roundsR_length, hfl.out])
       by_cases hc10 : c < 10
       · as_aux_lemma =>
           have hlt : (c : Int) < 10 := by omega
           clear hR
           go_wp2_with fail
           go_loopw [10, 12] (fun v i wr => ∃ (k : Nat) (a2 : Option Addr) (q2 : Nat), k ≤ 4 ∧ v = .slice a2 16 q2 ∧ i = .int .i64 (k : Int) ∧ At w0 (lrow 36 1 c32 (.slice a2 16 q2) (quN R k) :: lrow 36 1 c32 (.slice (some ⟨g, off, none⟩) 16 q) fs :: F) wr) (fun _ i _ => 4 - (intOf i).toNat)
           case atStart => exact ⟨0, _, _, by omega, rfl, rfl, H⟩
           case round =>
            clear H
            obtain ⟨k, a2, q2, hk, rfl, rfl, H⟩ := hrel
            by_cases hk4 : k < 4
            · as_aux_lemma =>
                have hlt : (k : Int) < 4 := by omega
                obtain ⟨b, hb⟩ : ∃ x, x = 4 + k := ⟨_, rfl⟩
                obtain ⟨cc, hcc⟩ : ∃ x, x = 8 + k := ⟨_, rfl⟩
                obtain ⟨d, hd⟩ : ∃ x, x = 12 + k := ⟨_, rfl⟩
                have b1 : (4 : Int) + (k : Int) = (b : Int) := by omega
                have b2 : IntKind.i64.wrap (b : Int) = (b : Int) := by rw [IntKind.wrap_i64]; omega
                have c1 : (8 : Int) + (k : Int) = (cc : Int) := by omega
                have c2 : IntKind.i64.wrap (cc : Int) = (cc : Int) := by rw [IntKind.wrap_i64]; omega
                have d1 : (12 : Int) + (k : Int) = (d : Int) := by omega
                have d2 : IntKind.i64.wrap (d : Int) = (d : Int) := by rw [IntKind.wrap_i64]; omega
                have hkw : IntKind.i64.wrap ((k : Int) + 1) = ((k + 1 : Nat) : Int) := by rw [IntKind.wrap_i64]; omega
                have hq := Lib.hid (show quarterQ (quN R k) k b cc d = quN R (k + 1) by rw [hb, hcc, hd]; exact (quN_succ R (quart_a hk4)).symm)
                have hql := Lib.hid (show 16 = (quN R k).length by rw [quN_length, hRl.out])
                have u0 := Lib.hid (show (k : Int) < 16 by omega)
                have u1 := Lib.hid (show (b : Int) < 16 by omega)
                have u2 := Lib.hid (show (cc : Int) < 16 by omega)
                have u3 := Lib.hid (show (d : Int) < 16 by omega)
                clear hb hcc hd
                go_wp2_with fail
                refine (RQuarter_c (a := k) (b := b) (c := cc) (d := d) H 0 rfl hql.out u0.out u1.out u2.out u3.out).mono ?_; rintro e w' ⟨g3, off3, p3, rfl, H⟩
                rw [hq.out] at H
                replace H := H.maskR [true, false]
                go_wp2_with fail
                first
                 | (refine ⟨?_, ?measure⟩; iterate 220 (try apply Exists.intro); refine ⟨?rel, rfl⟩)
                 | refine ⟨?rel, ?measure⟩
                case rel => exact ⟨k + 1, some ⟨g3, off3, none⟩, p3, by omega, rfl, rfl, H⟩
                case measure => simp [intOf]; omega
            · as_aux_lemma =>
                obtain rfl : k = 4 := by omega
                have hlt : ¬ (4 : Int) < 4 := by omega
                clear hk hk4
                go_wp2_with fail
                go_loopw [10, 13] (fun v i wr => ∃ (k : Nat) (a2 : Option Addr) (q2 : Nat), k ≤ 4 ∧ v = .slice a2 16 q2 ∧ i = .int .i64 (k : Int) ∧ At w0 (lrow 36 1 c32 (.slice a2 16 q2) (quN R (4 + k)) :: lrow 36 1 c32 (.slice (some ⟨g, off, none⟩) 16 q) fs :: F) wr) (fun _ i _ => 4 - (intOf i).toNat)
                case atStart => exact ⟨0, _, _, by omega, rfl, rfl, H⟩
                case round =>
                 clear H
                 obtain ⟨k, a2, q2, hk, rfl, rfl, H⟩ := hrel
                 by_cases hk4 : k < 4
                 · as_aux_lemma =>
                     have hlt : (k : Int) < 4 := by omega
                     obtain ⟨n1, n2, n3, r1, r2, r3, b, cc, d, hn1, a1, a2_, a3, w1, w2, w3, t1, t2, t3, v1, v2, v3, b1, b2, c1, c2, d1, d2, hqs, u0, u1, u2, u3⟩ := quart_facts hk4
                     have u0 := Lib.hid u0
                     have u1 := Lib.hid u1
                     have u2 := Lib.hid u2
                     have u3 := Lib.hid u3
                     have hnk := Lib.hid hn1
                     have hq := Lib.hid (show quarterQ (quN R (4 + k)) k b cc d = quN R (4 + (k + 1)) from (quN_succ R hqs).symm)
                     have hql := Lib.hid (show 16 = (quN R (4 + k)).length by rw [quN_length, hRl.out])
                     clear hqs hn1
                     go_wp2_with fail
                     refine (RQuarter_c (a := k) (b := b) (c := cc) (d := d) H 0 rfl hql.out u0.out u1.out u2.out u3.out).mono ?_; rintro e w' ⟨g3, off3, p3, rfl, H⟩
                     rw [hq.out] at H
                     replace H := H.maskR [true, false]
                     go_wp2_with fail
                     first
                      | (refine ⟨?_, ?measure⟩; iterate 220 (try apply Exists.intro); refine ⟨?rel, rfl⟩)
                      | refine ⟨?rel, ?measure⟩
                     case rel => exact ⟨k + 1, some ⟨g3, off3, none⟩, p3, by omega, rfl, by rw [hnk.out], H⟩
                     case measure => have := hnk.out; simp [intOf]; omega
                 · as_aux_lemma =>
                     obtain rfl : k = 4 := by omega
                     have hlt : ¬ (4 : Int) < 4 := by omega
                     have hR2 := Lib.hid (show quN R (4 + 4) = roundsR fs (c + 1) by rw [HR.out]; rfl)
                     rw [hR2.out] at H
                     have ew2 : IntKind.i64.wrap ((c : Int) + 1) = ((c + 1 : Nat) : Int) := by rw [IntKind.wrap_i64]; omega
                     clear hk hk4
                     go_wp2_with fail
                     first
                      | (refine ⟨?_, ?measure⟩; iterate 220 (try apply Exists.intro); refine ⟨?rel, rfl⟩)
                      | refine ⟨?rel, ?measure⟩
                     case rel => exact ⟨c + 1, a2, q2, by omega, rfl, rfl, H⟩
                     case measure => simp [intOf]; omega
       · as_aux_lemma =>
           obtain rfl : c = 10 := by omega
           have hlt : ¬ (10 : Int) < 10 := by omega
           have hRl2 := Lib.hid hRl.out.symm
           obtain ⟨g2, off2, rfl⟩ := place_of hRl2.out H 0 rfl (by omega)
           clear hR hc hc10
           go_wp2_with fail
           go_loopw [14, 15] (fun s i wr => ∃ c : Nat, c ≤ 16 ∧ s = .string (sB (((List.zipWith (· + ·) R fs).take c).flatMap outL)) ∧ i = .int .i64 (c : Int) ∧ At w0 (lrow 36 1 c32 (.slice (some ⟨g2, off2, none⟩) 16 q2) R :: lrow 36 1 c32 (.slice (some ⟨g, off, none⟩) 16 q) fs :: F) wr) (fun _ i _ => 16 - (intOf i).toNat)
           case atStart => exact ⟨0, by omega, rfl, rfl, H⟩
           case round =>
            clear H
            obtain ⟨c, hc, rfl, rfl, H⟩ := hrel
            by_cases hc16 : c < 16
            · as_aux_lemma =>
                have hlt : (c : Int) < 16 := by omega
                have ew2 : IntKind.i64.wrap ((c : Int) + 1) = ((c + 1 : Nat) : Int) := by rw [IntKind.wrap_i64]; omega
                obtain ⟨x, hx⟩ : ∃ x, x = gw R c := ⟨_, rfl⟩
                obtain ⟨y, hy⟩ : ∃ x, x = gw fs c := ⟨_, rfl⟩
                obtain ⟨Z, hZ⟩ : ∃ Z, Z = ((List.zipWith (· + ·) R fs).take c).flatMap outL := ⟨_, rfl⟩
                have iR := Lib.hid (show c < R.length by rw [hRl.out]; exact hc16)
                have iF := Lib.hid (show c < fs.length by rw [hfl.out]; exact hc16)
                have hnx := Lib.hid (show Z ++ (beN 4 (x + y).toNat).reverse = ((List.zipWith (· + ·) R fs).take (c + 1)).flatMap outL by
                 rw [outL_beN, hZ, hx, hy]
                 exact zip_out iR.out iF.out)
                have hZl := Lib.hid (show Z.length ≤ 64 by rw [hZ, flat_outL_length, List.length_take]; omega)
                have HX := Lib.hid hx
                have HY := Lib.hid hy
                have ex : IntKind.u64.wrap (iv (x + y)) = iv (x + y) := by have := iv32_le (x + y); have := iv_nonneg (x + y); rw [IntKind.wrap_u64]; omega
                rw [← hZ]
                clear hx hy hZ
                go_wp2_with fail
                refine wpM_begin [] ((At w0 (lrow 36 1 c32 (.slice (some ⟨g2, off2, none⟩) 16 q2) R :: lrow 36 1 c32 (.slice (some ⟨g, off, none⟩) 16 q) fs :: F))) [(0, 2), (1, 2), (2, 2), (3, 2), (4, 1), (5, 2), (6, 2), (7, 2), (8, 1), (9, 2), (10, 2), (11, 0), (12, 0), (13, 2), (14, 0)] rfl (by kernel_rfl) (by kernel_rfl) ((H.drew)) ?_
                intro ops hOps hS
                replace H := H.drew
                iterate 4 refine fm hOps ?_
                refine tm hOps hS (fun w hw => (show _ = some (Value.int .u32 (iv x)) by rw [HX.out]; exact w32_at hRl2.out hw 0 rfl iR.out)) ?_
                iterate 3 refine fm hOps ?_
                refine tm hOps hS (fun w hw => (show _ = some (Value.int .u32 (iv y)) by rw [HY.out]; exact w32_at hfl2.out hw 1 rfl iF.out)) ?_
                iterate 2 refine fm hOps ?_
                refine wpM_next hOps rfl rfl ?_
                intro K hK
                refine wp_call _ _ _ rfl Tryz.func108 rfl (by kernel_rfl) ?_
                simp only [List.map_toArray, List.map_cons, List.map_nil, Act.eval, Array.getD_eq_getD_getElem?, List.getElem?_toArray, List.getElem?_cons_zero, List.getElem?_cons_succ, Option.getD_some]
                refine (RText_c (n := (x + y).toNat) (k := 4) H (by have := (x + y).isLt; omega) (by omega)).mono ?_; rintro e w' ⟨rfl, H⟩
                have hS := (H)
                refine hK _ _ (.inr hS) ?_
                clear hK K
                simp only [nrm]
                refine wpM_next hOps rfl rfl ?_
                intro K hK
                refine wp_call _ _ _ rfl Tryz.func136 rfl (by kernel_rfl) ?_
                simp only [List.map_toArray, List.map_cons, List.map_nil, Act.eval, Array.getD_eq_getD_getElem?, List.getElem?_toArray, List.getElem?_cons_zero, List.getElem?_cons_succ, Option.getD_some]
                refine (RTurned_c (l := beN 4 (x + y).toNat) H (by rw [beN_length]; omega)).mono ?_; rintro e w' ⟨rfl, H⟩
                have hS := (H)
                refine hK _ _ (.inr hS) ?_
                clear hK K
                simp only [nrm]
                refine wpM_free hOps rfl (fun _ _ _ h => h) (yl rfl (fun w _ => exec_sadd (u := Z) (v := (beN 4 (x + y).toNat).reverse) rfl rfl rfl (by rw [List.length_reverse, beN_length]; have := hZl.out; omega) w)) ?_
                simp only [nrm]
                refine wpM_next hOps rfl rfl ?_
                intro K hK
                refine wp_run rfl ?_
                have hS := (hS)
                refine hK _ _ (.inr hS) ?_
                clear hK K
                simp only [nrm]
                refine wpM_end ?_
                clear hOps hS ops
                rw [hnx.out]
                go_wp2_with fail
                first
                 | (refine ⟨?_, ?measure⟩; iterate 220 (try apply Exists.intro); refine ⟨?rel, rfl⟩)
                 | refine ⟨?rel, ?measure⟩
                case rel => exact ⟨c + 1, by omega, rfl, rfl, H⟩
                case measure => simp [intOf]; omega
            · as_aux_lemma =>
                obtain rfl : c = 16 := by omega
                have hlt : ¬ (16 : Int) < 16 := by omega
                clear hc hc16
                go_wp2_with fail
                go_ret
                exact ⟨by rw [HR.out]; rfl, H.maskR [false, false]⟩
set_option maxRecDepth 10000 in
set_option maxHeartbeats 1000000 in
theorem RStream_c {w0 w : World} {F : List SP} {key nonce : List (BitVec 8)} {n : Nat} (H : At w0 F w) (hk : key.length = 32) (hn : nonce.length = 12) (hnb : n ≤ 100000) :
    Calls Tryz.prog 107 #[.string (sB key), .string (sB nonce), .int .i64 (n : Int)] w fun r w' => r = .returned (.string (sB (streamOf key nonce n))) ∧ At w0 F w' := by
 have HK := Lib.hid hk
 have HN := Lib.hid hn
 have HB := Lib.hid hnb
 have hm1 : (if (n : Int) < 0 then 0 else (n : Int)) = (n : Int) := by split <;> omega
 have hm2 : (if (0 : Int) < (n : Int) then (n : Int) else 0) = (n : Int) := by split <;> omega
 clear hk hn hnb
 go_enter Tryz.func107, Tryz.ntmps107
 go_wp2_with fail
 go_loopw [7, 8] (fun s i wr => ∃ c : Nat, 64 * c < n + 64 ∧ s = .string (sB (blocksOf key nonce c)) ∧ i = .int .i64 (c : Int) ∧ At w0 F wr) (fun _ i _ => n + 64 - 64 * (intOf i).toNat)
 case atStart => exact ⟨0, by omega, rfl, rfl, H⟩
 case round =>
  clear H
  obtain ⟨c, hc, rfl, rfl, H⟩ := hrel
  obtain ⟨Z, hZ⟩ : ∃ Z, Z = blocksOf key nonce c := ⟨_, rfl⟩
  obtain ⟨l, hl⟩ : ∃ l, l = 64 * c := ⟨_, rfl⟩
  have hZl := Lib.hid (show Z.length = l by rw [hZ, blocksOf_length HK.out HN.out, hl])
  have hsz : (sB Z).size = l := by rw [sB_size, hZl.out]
  rw [← hZ]
  by_cases hlt0 : l < n
  · have hlt : (l : Int) < (n : Int) := by omega
    have e1 : IntKind.u32.wrap (c : Int) = (c : Int) := by rw [IntKind.wrap_u32]; have := HB.out; omega
    have e2 : IntKind.i64.wrap ((c : Int) + 1) = ((c + 1 : Nat) : Int) := by rw [IntKind.wrap_i64]; have := HB.out; omega
    have hc32 := Lib.hid (show c < 4294967296 by have := HB.out; omega)
    have hnx := Lib.hid (show Z ++ blockOf key (BitVec.ofNat 32 c) nonce = blocksOf key nonce (c + 1) by rw [hZ]; rfl)
    have hs := Lib.hid (show l ≤ 200000 by have := HB.out; omega)
    have hL := Lib.hid hl
    have hC1 := Lib.hid (show 64 * (c + 1) < n + 64 by omega)
    clear hZ hl
    go_wp2_with fail
    refine (RBlock_c H HK.out HN.out hc32.out).mono ?_; rintro e w' ⟨rfl, H⟩
    go_wp2_with ((with_reducible refine wpList_op rfl ?_); intro _ hK; first
     | (refine dst_is 21 rfl ?_; refine wp_sadd _ _ _ _ rfl (u := Z) (v := blockOf key (BitVec.ofNat 32 c) nonce) rfl rfl (by rw [hZl.out, blockOf_length HK.out HN.out]; have := hs.out; omega) ?_; rw [hnx.out]; refine hK _ _ ?_))
    first
     | (refine ⟨?_, ?measure⟩; iterate 220 (try apply Exists.intro); refine ⟨?rel, rfl⟩)
     | refine ⟨?rel, ?measure⟩
    case rel => exact ⟨c + 1, hC1.out, rfl, rfl, H⟩
    case measure => simp [intOf]; omega
  · have hlt : ¬ (l : Int) < (n : Int) := by omega
    have hcc := Lib.hid (show Z.take n = streamOf key nonce n by rw [hZ, show c = (n + 63) / 64 by omega]; rfl)
    have hnZ := Lib.hid (show n ≤ Z.length by rw [hZl.out]; omega)
    clear hZ hl hc
    go_wp2_with ((with_reducible refine wpList_op rfl ?_); intro _ hK; first
     | (refine dst_is 25 rfl ?_; refine wp_slice 9 _ _ _ _ rfl (run_stake (l := Z) (J := (n : Int)) (j := n) under_strT rfl hnZ.out _) ?_; rw [hcc.out]; refine hK _ _ ?_))
    go_ret
    exact ⟨rfl, H⟩
end Go.Proofs.YtmflbekabkainaaGreatDoor
