/-
  What is done with other boxes does not matter to one: two mails, to one of which only one box's steps are done, answer alike of it; the law answers true and its arguments read as before.
-/
import Derived.Test.YtogicnbocefkbaaLaw15
import Derived.Test.YtogicnbocefkbaaNum
import Derived.Test.YtogicnbocefkbaaSteps
import Derived.Test.YtogicnbocefkbaaPair
namespace Go.Proofs.Ytogicnbocefkbaa
open Go.ChangeShapes Go.WideShapes Go.ChangeAt Go.RowKit Go.Hg
open Go.ChangeMaps (open_string shut_string)
set_option linter.unusedSimpArgs false
set_option linter.unusedVariables false
def ApartR (w0 : World) (m m2 : Nat) (b : Nat) (w : World) : Prop := ∃ L M, MailOK L ∧ MailOK M ∧ Alike b L M ∧ At w0 [mail m L, mail m2 M] w
set_option maxRecDepth 10000 in
set_option maxHeartbeats 4000000 in
theorem mailboxApart_walk (z0 xb : Int) (a : Option Addr) (len cap : Nat) (w : World) (h0 : (Lit.int .i64 z0).wf = true) (hxw : (Lit.int .u16 xb).wf = true) (h1 : StepRow w a len) :
    Calls Try.prog 6 #[.int .i64 z0, .int .u16 xb, .slice a len cap] w fun e w' => e = .returned (.bool true) ∧ Below w.heap.size w w' := by
  obtain ⟨hlen, b, off, hcell⟩ := h1
  have hxb := bounds_u16 hxw
  have H := At.start w
  have hM0 := MailOK.new z0
  go_enter Try.func6, Try.ntmps6
  go_wp2_with fail
  refine (shown_c H).mono ?_; rintro e w' ⟨rfl, H⟩
  go_wp2_with fail
  refine (new_c H _).mono ?_; rintro e w' ⟨m, rfl, H⟩
  go_wp2_with fail
  refine (new_c H _).mono ?_; rintro e w' ⟨m2, rfl, H⟩
  go_wp2_with fail
  go_loopw [10] (fun i wr => ∃ j : Nat, (j : Int) ≤ 100 ∧ i = .int .i64 j ∧ ApartR w m m2 xb.toNat wr) (fun i _ => 100 - (intOf i).toNat)
  case atStart => exact ⟨0, by omega, rfl, _, _, hM0, hM0, ⟨rfl, rfl⟩, H.pull 1 rfl⟩
  case round =>
    clear H hM0
    obtain ⟨j, hj, rfl, L, M, hM, hM2, hA, H⟩ := hrel
    by_cases h1 : (j : Int) < len
    · by_cases h2 : (j : Int) < 100
      · obtain ⟨ha, hblt, k, bx, s, n, hst, hbx0, hbx1, hs⟩ := hcell j (by omega)
        subst ha
        clear hcell
        have hst' : wr.rangeAt b (off + j * 4) (stepC k bx s n) := fun q v hv => (H.below.cell hblt).trans (hst q v hv)
        clear hst
        by_cases hown : bx = xb
        · subst hown
          go_wp2_with ((with_reducible refine wpList_op rfl ?_); intro _ hK; first | (refine wp_alloc_sl _ rfl info_Step H (fun B w' (H : At w [raw B _ 32, _, _] w') _ => hK _ _ ?_)) | (refine wp_store_row_sl (cells := (stepC k bx s n).toArray) _ _ _ rfl rfl rfl (by kernel_rfl) (by simp [stepC, Value.oneCell']) 0 H rfl rfl fun w' (H : At w [raw B #[.int .i64 k, .int .u16 bx, .string s, .int .i64 n] 32, _, _] w') => hK _ _ ?_) | (refine wp_mid _ _ rfl rfl (stepC k bx s n) (by kernel_rfl) (by kernel_rfl) hst' (hK _ _ ?_)) | (refine wp_get _ _ rfl rfl (by kernel_rfl) (raw_at (H.heap 0 rfl) rfl) (hK _ _ ?_)))
          · obtain ⟨X, hX⟩ : ∃ X, X = fetchX L bx.toNat n := ⟨_, rfl⟩
            have hF : Full X := hX ▸ (fetchX_full hM _ _).1
            have hXl : (X.length : Int) ≤ 64 := by have := (fetchX_full hM bx.toNat n).2; rw [← hX] at this; omega
            have HX := Lib.hid hX
            have HX2 := Lib.hid (hX.trans (hA.fetchX n))
            obtain ⟨er, her⟩ : ∃ er, er = fetchE L bx.toNat n := ⟨_, rfl⟩
            have HER := Lib.hid her
            have HER2 := Lib.hid (her.trans (hA.fetchE n))
            clear hX her
            refine (fetch_c (H.pull 1 rfl) hM _ hbx0 (by omega) _).mono ?_; rintro e w' ⟨u, rfl, H⟩
            obtain ⟨ua, uc, rfl⟩ := H.rows_slice
            rw [← HX.out] at H
            rw [← HER.out, ← HX.out]
            go_wp2_with ((first | (with_reducible refine wpList_op rfl ?_) | (refine wpList_opif (by rfl) ?_)); intro _ hK; refine wp_get _ _ rfl rfl (by kernel_rfl) (raw_at (H.heap 2 rfl) rfl) (hK _ _ ?_))
            refine (fetch_c (H.pull 3 rfl) hM2 _ hbx0 (by omega) _).mono ?_; rintro e w' ⟨u, rfl, H⟩
            obtain ⟨ub, ud, rfl⟩ := H.rows_slice
            rw [← HX2.out] at H
            rw [← HER2.out, ← HX2.out]
            have H' : Two w X ua uc ub ud [mail m2 (fetchL M bx.toNat n), mail m (fetchL L bx.toNat n)] w' := (H.pull 2 rfl).mask [true, true, true, true]
            clear H
            go_wp2_with fail
            go_loopw [17] (fun i wr => ∃ q : Nat, (q : Int) ≤ X.length ∧ i = .int .i64 q ∧ Two w X ua uc ub ud [mail m2 (fetchL M bx.toNat n), mail m (fetchL L bx.toNat n)] wr) (fun i _ => X.length - (intOf i).toNat)
            case atStart => exact ⟨0, by omega, rfl, H'⟩
            case round =>
              clear H'
              obtain ⟨q, hq, rfl, H⟩ := hrel
              unfold Two at H
              by_cases hlt : (q : Int) < X.length
              · obtain ⟨x, hx⟩ : ∃ x, X[q]? = some x := ⟨_, List.getElem?_eq_getElem (by omega)⟩
                have hxl : x.length = 256 := hF x (List.mem_of_getElem? hx)
                have hel := Lib.hid (elem_bls hF hx)
                rcases H.rows_value with ⟨_, hn, _⟩ | ⟨ga, oa, ca, e, _⟩
                · omega
                rcases (H.pull 1 rfl).rows_value with ⟨_, hn, _⟩ | ⟨gb, ob, cb, e', _⟩
                · omega
                cases e
                cases e'
                go_wp2_with fail
                refine wpL_begin 9 (Two w X (some ⟨ga, oa, none⟩) uc (some ⟨gb, ob, none⟩) ud [mail m2 (fetchL M bx.toNat n), mail m (fetchL L bx.toNat n)]) [(0, true), (1, true), (2, true), (3, true), (4, true), (5, true), (6, true), (7, true), (8, true)] rfl (by kernel_rfl) (by kernel_rfl) ((H.drew)) ?_
                intro ops hOps hS
                replace H := H.drew
                refine wpL_take hOps hS rfl (fun _ _ _ h => h) (yl_move rfl _ rfl) ?_
                simp only [Act.put, Act.eval, List.setIfInBounds_toArray, List.set_cons_zero, List.set_cons_succ, Array.getD_eq_getD_getElem?, List.getElem?_toArray, List.getElem?_cons_zero, List.getElem?_cons_succ, Option.getD_some]
                refine wpL_take hOps hS rfl (fun _ _ _ h => h) (yl_move rfl _ rfl) ?_
                simp only [Act.put, Act.eval, List.setIfInBounds_toArray, List.set_cons_zero, List.set_cons_succ, Array.getD_eq_getD_getElem?, List.getElem?_toArray, List.getElem?_cons_zero, List.getElem?_cons_succ, Option.getD_some]
                refine wpL_take hOps hS (v := ?vOp9) rfl (fun _ _ _ h => h) (yl rfl ?yOp9) ?_
                case yOp9 => (intro w hw; go_simp; first | done | rfl)
                simp only [Act.put, Act.eval, List.setIfInBounds_toArray, List.set_cons_zero, List.set_cons_succ, Array.getD_eq_getD_getElem?, List.getElem?_toArray, List.getElem?_cons_zero, List.getElem?_cons_succ, Option.getD_some]
                refine wpL_take hOps hS rfl (fun _ _ _ h => h) (yieldsIf_load_mid rfl _ _ rfl ga (oa + q * 256) rfl (bl x) _ (fun w hw => by rw [← hel.out]; exact At.rows_elem hw (by omega)) under_body rfl (by rw [bl_length, hxl]; kernel_rfl)) ?_
                simp only [Act.put, Act.eval, List.setIfInBounds_toArray, List.set_cons_zero, List.set_cons_succ, Array.getD_eq_getD_getElem?, List.getElem?_toArray, List.getElem?_cons_zero, List.getElem?_cons_succ, Option.getD_some]
                refine wpL_take hOps hS rfl (fun _ _ _ h => h) (yl_move rfl _ rfl) ?_
                simp only [Act.put, Act.eval, List.setIfInBounds_toArray, List.set_cons_zero, List.set_cons_succ, Array.getD_eq_getD_getElem?, List.getElem?_toArray, List.getElem?_cons_zero, List.getElem?_cons_succ, Option.getD_some]
                refine wpL_take hOps hS rfl (fun _ _ _ h => h) (yl_move rfl _ rfl) ?_
                simp only [Act.put, Act.eval, List.setIfInBounds_toArray, List.set_cons_zero, List.set_cons_succ, Array.getD_eq_getD_getElem?, List.getElem?_toArray, List.getElem?_cons_zero, List.getElem?_cons_succ, Option.getD_some]
                refine wpL_take hOps hS (v := ?vOp19) rfl (fun _ _ _ h => h) (yl rfl ?yOp19) ?_
                case yOp19 => (intro w hw; go_simp; first | done | rfl)
                simp only [Act.put, Act.eval, List.setIfInBounds_toArray, List.set_cons_zero, List.set_cons_succ, Array.getD_eq_getD_getElem?, List.getElem?_toArray, List.getElem?_cons_zero, List.getElem?_cons_succ, Option.getD_some]
                refine wpL_take hOps hS rfl (fun _ _ _ h => h) (yieldsIf_load_mid rfl _ _ rfl gb (ob + q * 256) rfl (bl x) _ (fun w hw => by rw [← hel.out]; exact At.rows_elem (At.pull hw 1 rfl) (by omega)) under_body rfl (by rw [bl_length, hxl]; kernel_rfl)) ?_
                simp only [Act.put, Act.eval, List.setIfInBounds_toArray, List.set_cons_zero, List.set_cons_succ, Array.getD_eq_getD_getElem?, List.getElem?_toArray, List.getElem?_cons_zero, List.getElem?_cons_succ, Option.getD_some]
                refine wpL_take hOps hS rfl (fun _ _ _ h => h) (yl rfl fun w _ => exec_neq_bytes rfl rfl rfl under_body under_uint8 size_uint8 noguard_body hxl hxl) ?_
                simp only [Act.put, Act.eval, List.setIfInBounds_toArray, List.set_cons_zero, List.set_cons_succ, Array.getD_eq_getD_getElem?, List.getElem?_toArray, List.getElem?_cons_zero, List.getElem?_cons_succ, Option.getD_some]
                rw [beq_self_eq_true, Bool.not_true]
                refine wpL_end ?_
                clear hOps hS ops
                go_wp2
                go_roundw
                case rel => exact ⟨q + 1, by omega, by go_num, H⟩
                case measure => simp [intOf]; omega
              · go_wp2
                go_roundw
                case rel => exact ⟨j + 1, by omega, by go_num, _, _, hM.fetch _ _, hM2.fetch _ _, hA.fetch _, (H.pull 3 rfl).mask [true, false, false, true]⟩
                case measure => simp [intOf]; omega
          · refine wpL_begin 7 (At w [raw B #[.int .i64 k, .int .u16 bx, .string s, .int .i64 n] 32]) [(0, true), (1, true), (2, true), (3, true), (4, true), (5, false), (6, false), (7, false)] rfl (by kernel_rfl) (by kernel_rfl) ((H.drew.mask [true])) ?_
            intro ops hOps hS
            replace H := H.drew
            refine wpL_take hOps hS rfl (fun _ _ _ h => h) (yl_move rfl _ rfl) ?_
            simp only [Act.put, Act.eval, List.setIfInBounds_toArray, List.set_cons_zero, List.set_cons_succ, Array.getD_eq_getD_getElem?, List.getElem?_toArray, List.getElem?_cons_zero, List.getElem?_cons_succ, Option.getD_some]
            refine wpL_take hOps hS (v := ?vOp31) rfl (fun _ _ _ h => h) (yl rfl ?yOp31) ?_
            case yOp31 => (intro w hw; go_simp; first | done | rfl)
            simp only [Act.put, Act.eval, List.setIfInBounds_toArray, List.set_cons_zero, List.set_cons_succ, Array.getD_eq_getD_getElem?, List.getElem?_toArray, List.getElem?_cons_zero, List.getElem?_cons_succ, Option.getD_some]
            refine wpL_take hOps hS rfl (fun _ _ _ h => h) (yl_get rfl _ _ rfl rfl (by kernel_rfl) (fun w hw => raw_at (hw.heap 0 rfl) rfl)) ?_
            simp only [Act.put, Act.eval, List.setIfInBounds_toArray, List.set_cons_zero, List.set_cons_succ, Array.getD_eq_getD_getElem?, List.getElem?_toArray, List.getElem?_cons_zero, List.getElem?_cons_succ, Option.getD_some]
            refine wpL_take hOps hS (v := ?vOp35) rfl (fun _ _ _ h => h) (yl rfl ?yOp35) ?_
            case yOp35 => (intro w hw; go_simp; first | done | rfl)
            simp only [Act.put, Act.eval, List.setIfInBounds_toArray, List.set_cons_zero, List.set_cons_succ, Array.getD_eq_getD_getElem?, List.getElem?_toArray, List.getElem?_cons_zero, List.getElem?_cons_succ, Option.getD_some]
            refine wpL_take hOps hS rfl (fun _ _ _ h => h) (yl_get rfl _ _ rfl rfl (by kernel_rfl) (fun w hw => raw_at (hw.heap 0 rfl) rfl)) ?_
            simp only [Act.put, Act.eval, List.setIfInBounds_toArray, List.set_cons_zero, List.set_cons_succ, Array.getD_eq_getD_getElem?, List.getElem?_toArray, List.getElem?_cons_zero, List.getElem?_cons_succ, Option.getD_some]
            refine wpL_next hOps rfl rfl ?_
            intro K hK
            refine wp_call _ _ _ rfl Try.func12 rfl (by kernel_rfl) ?_
            simp only [List.map_toArray, List.map_cons, List.map_nil, Act.eval, Array.getD_eq_getD_getElem?, List.getElem?_toArray, List.getElem?_cons_zero, List.getElem?_cons_succ, Option.getD_some]
            refine (body_c H s hs).mono ?_; rintro e w' ⟨rfl, H⟩
            have hS := (H.mask [true])
            refine hK _ _ hS ?_
            clear hK K
            simp only [Act.put, Act.eval, List.setIfInBounds_toArray, List.set_cons_zero, List.set_cons_succ, Array.getD_eq_getD_getElem?, List.getElem?_toArray, List.getElem?_cons_zero, List.getElem?_cons_succ, Option.getD_some]
            refine wpL_next hOps rfl rfl ?_
            intro K hK
            refine wp_call _ _ _ rfl Try.func13 rfl (by kernel_rfl) ?_
            simp only [List.map_toArray, List.map_cons, List.map_nil, Act.eval, Array.getD_eq_getD_getElem?, List.getElem?_toArray, List.getElem?_cons_zero, List.getElem?_cons_succ, Option.getD_some]
            refine (put_c (H.pull 1 rfl) hM _ hbx0 (by omega) _ (bodyOf_length _)).mono ?_; rintro e w' ⟨rfl, H⟩
            have hS := (H.mask [false, true])
            refine hK _ _ hS ?_
            clear hK K
            simp only [Act.put, Act.eval, List.setIfInBounds_toArray, List.set_cons_zero, List.set_cons_succ, Array.getD_eq_getD_getElem?, List.getElem?_toArray, List.getElem?_cons_zero, List.getElem?_cons_succ, Option.getD_some]
            refine wpL_last hOps rfl rfl ?_
            intro K hK
            refine wp_run (v := .int .i64 (putE L bx.toNat)) rfl ?_
            refine hK _ _ ?_
            clear hK K hOps hS ops
            simp only [Act.put, Act.eval, List.setIfInBounds_toArray, List.set_cons_zero, List.set_cons_succ, Array.getD_eq_getD_getElem?, List.getElem?_toArray, List.getElem?_cons_zero, List.getElem?_cons_succ, Option.getD_some]
            go_wp2_with ((first | (with_reducible refine wpList_op rfl ?_) | (refine wpList_opif (by rfl) ?_)); intro _ hK; refine wp_get _ _ rfl rfl (by kernel_rfl) (raw_at (H.heap 1 rfl) rfl) (hK _ _ ?_))
            refine (body_c H s hs).mono ?_; rintro e w' ⟨rfl, H⟩
            go_wp2_with fail
            refine (put_c (H.pull 2 rfl) hM2 _ hbx0 (by omega) _ (bodyOf_length _)).mono ?_; rintro e w' ⟨rfl, H⟩
            rw [hA.putE]
            go_wp2
            go_roundw
            case rel => exact ⟨j + 1, by omega, by go_num, _, _, hM.put _ (bodyOf_length _), hM2.put _ (bodyOf_length _), hA.put _, (H.pull 1 rfl).mask [true, true]⟩
            case measure => simp [intOf]; omega
        · have hne : (bx == xb) = false := by simpa using hown
          have hne2 : bx.toNat ≠ xb.toNat := by omega
          go_wp2_with ((with_reducible refine wpList_op rfl ?_); intro _ hK; first | (refine wp_alloc_sl _ rfl info_Step H (fun B w' (H : At w [raw B _ 32, _, _] w') _ => hK _ _ ?_)) | (refine wp_store_row_sl (cells := (stepC k bx s n).toArray) _ _ _ rfl rfl rfl (by kernel_rfl) (by simp [stepC, Value.oneCell']) 0 H rfl rfl fun w' (H : At w [raw B #[.int .i64 k, .int .u16 bx, .string s, .int .i64 n] 32, _, _] w') => hK _ _ ?_) | (refine wp_mid _ _ rfl rfl (stepC k bx s n) (by kernel_rfl) (by kernel_rfl) hst' (hK _ _ ?_)) | (refine wp_get _ _ rfl rfl (by kernel_rfl) (raw_at (H.heap 0 rfl) rfl) (hK _ _ ?_)))
          · refine (fetch_c (H.pull 1 rfl) hM _ hbx0 (by omega) _).mono ?_; rintro e w' ⟨u, rfl, H⟩
            go_wp2
            go_roundw
            case rel => exact ⟨j + 1, by omega, by go_num, _, M, hM.fetch _ _, hM2, hA.fetch_other hne2 _, H.mask [false, true, false, true]⟩
            case measure => simp [intOf]; omega
          · refine wpL_begin 7 (At w [raw B #[.int .i64 k, .int .u16 bx, .string s, .int .i64 n] 32]) [(0, true), (1, true), (2, true), (3, true), (4, true), (5, false), (6, false), (7, false)] rfl (by kernel_rfl) (by kernel_rfl) ((H.drew.mask [true])) ?_
            intro ops hOps hS
            replace H := H.drew
            refine wpL_take hOps hS rfl (fun _ _ _ h => h) (yl_move rfl _ rfl) ?_
            simp only [Act.put, Act.eval, List.setIfInBounds_toArray, List.set_cons_zero, List.set_cons_succ, Array.getD_eq_getD_getElem?, List.getElem?_toArray, List.getElem?_cons_zero, List.getElem?_cons_succ, Option.getD_some]
            refine wpL_take hOps hS (v := ?vOp55) rfl (fun _ _ _ h => h) (yl rfl ?yOp55) ?_
            case yOp55 => (intro w hw; go_simp; first | done | rfl)
            simp only [Act.put, Act.eval, List.setIfInBounds_toArray, List.set_cons_zero, List.set_cons_succ, Array.getD_eq_getD_getElem?, List.getElem?_toArray, List.getElem?_cons_zero, List.getElem?_cons_succ, Option.getD_some]
            refine wpL_take hOps hS rfl (fun _ _ _ h => h) (yl_get rfl _ _ rfl rfl (by kernel_rfl) (fun w hw => raw_at (hw.heap 0 rfl) rfl)) ?_
            simp only [Act.put, Act.eval, List.setIfInBounds_toArray, List.set_cons_zero, List.set_cons_succ, Array.getD_eq_getD_getElem?, List.getElem?_toArray, List.getElem?_cons_zero, List.getElem?_cons_succ, Option.getD_some]
            refine wpL_take hOps hS (v := ?vOp59) rfl (fun _ _ _ h => h) (yl rfl ?yOp59) ?_
            case yOp59 => (intro w hw; go_simp; first | done | rfl)
            simp only [Act.put, Act.eval, List.setIfInBounds_toArray, List.set_cons_zero, List.set_cons_succ, Array.getD_eq_getD_getElem?, List.getElem?_toArray, List.getElem?_cons_zero, List.getElem?_cons_succ, Option.getD_some]
            refine wpL_take hOps hS rfl (fun _ _ _ h => h) (yl_get rfl _ _ rfl rfl (by kernel_rfl) (fun w hw => raw_at (hw.heap 0 rfl) rfl)) ?_
            simp only [Act.put, Act.eval, List.setIfInBounds_toArray, List.set_cons_zero, List.set_cons_succ, Array.getD_eq_getD_getElem?, List.getElem?_toArray, List.getElem?_cons_zero, List.getElem?_cons_succ, Option.getD_some]
            refine wpL_next hOps rfl rfl ?_
            intro K hK
            refine wp_call _ _ _ rfl Try.func12 rfl (by kernel_rfl) ?_
            simp only [List.map_toArray, List.map_cons, List.map_nil, Act.eval, Array.getD_eq_getD_getElem?, List.getElem?_toArray, List.getElem?_cons_zero, List.getElem?_cons_succ, Option.getD_some]
            refine (body_c H s hs).mono ?_; rintro e w' ⟨rfl, H⟩
            have hS := (H.mask [true])
            refine hK _ _ hS ?_
            clear hK K
            simp only [Act.put, Act.eval, List.setIfInBounds_toArray, List.set_cons_zero, List.set_cons_succ, Array.getD_eq_getD_getElem?, List.getElem?_toArray, List.getElem?_cons_zero, List.getElem?_cons_succ, Option.getD_some]
            refine wpL_next hOps rfl rfl ?_
            intro K hK
            refine wp_call _ _ _ rfl Try.func13 rfl (by kernel_rfl) ?_
            simp only [List.map_toArray, List.map_cons, List.map_nil, Act.eval, Array.getD_eq_getD_getElem?, List.getElem?_toArray, List.getElem?_cons_zero, List.getElem?_cons_succ, Option.getD_some]
            refine (put_c (H.pull 1 rfl) hM _ hbx0 (by omega) _ (bodyOf_length _)).mono ?_; rintro e w' ⟨rfl, H⟩
            have hS := (H.mask [false, true])
            refine hK _ _ hS ?_
            clear hK K
            simp only [Act.put, Act.eval, List.setIfInBounds_toArray, List.set_cons_zero, List.set_cons_succ, Array.getD_eq_getD_getElem?, List.getElem?_toArray, List.getElem?_cons_zero, List.getElem?_cons_succ, Option.getD_some]
            refine wpL_last hOps rfl rfl ?_
            intro K hK
            refine wp_run (v := .int .i64 (putE L bx.toNat)) rfl ?_
            refine hK _ _ ?_
            clear hK K hOps hS ops
            simp only [Act.put, Act.eval, List.setIfInBounds_toArray, List.set_cons_zero, List.set_cons_succ, Array.getD_eq_getD_getElem?, List.getElem?_toArray, List.getElem?_cons_zero, List.getElem?_cons_succ, Option.getD_some]
            go_wp2
            go_roundw
            case rel => exact ⟨j + 1, by omega, by go_num, _, M, hM.put _ (bodyOf_length _), hM2, hA.put_other hne2 _, H.mask [true, false, true]⟩
            case measure => simp [intOf]; omega
      · go_wp2_with fail
        refine (len_c H _ (by omega) (by omega)).mono ?_; rintro e w' ⟨rfl, rfl⟩
        go_wp2_with fail
        refine (len_c (H.pull 1 rfl) _ (by omega) (by omega)).mono ?_; rintro e w' ⟨rfl, rfl⟩
        rw [hA.len]
        go_wp2
        go_ret
        exact ⟨rfl, H.below⟩
    · go_wp2_with fail
      refine (len_c H _ (by omega) (by omega)).mono ?_; rintro e w' ⟨rfl, rfl⟩
      go_wp2_with fail
      refine (len_c (H.pull 1 rfl) _ (by omega) (by omega)).mono ?_; rintro e w' ⟨rfl, rfl⟩
      rw [hA.len]
      go_wp2
      go_ret
      exact ⟨rfl, H.below⟩
theorem mailboxApart_own : ownKnob Try.prog.godebug = none := by kernel_rfl
theorem mailboxApart_laid : laidOutB Try.prog = true := by kernel_rfl
set_option maxRecDepth 100000 in
theorem mailboxApart_lifted (os : Os) (started : os.Started) (H : Type) (enc : TypeId × Value → H) :
    ReturnsInHanded {} Try.checked os 6 .any (Rows.mailboxApartSpec.pre6 enc Try.prog Try.f6 Rows.mailboxApartRow.domain false) (Rows.mailboxApartSpec.post enc Try.prog Try.f6 false true false false) := by
  refine returnsInHanded_of_change (C := Try.checked) mailboxApart_own started (by kernel_rfl) Try.func6
    (ChangeSpec.witness6 (enc := enc) (C := Try.checked) false ⟨#[], #[.int .i64 0, .int .u16 0, .slice none 0 0], []⟩ 8 (by kernel_rfl) (by kernel_rfl) (by kernel_rfl) (by kernel_rfl)) ?_
  intro W base args ds gs before hval0 hW hcnd _
  have hval : ∀ (j : Nat) t v, Try.f6.params[j]? = some t → args[j]? = some v → Value.okWide Try.prog W .any base t v := hval0
  have hW' := hW
  obtain ⟨p, q, hA0, hV, rfl, hfz, hnd⟩ := hW
  have hA : DataW.TrodAll enc Try.prog W 0 (fun _ => true) true Try.f6.params.toList args.toList ds p := hA0
  rw [Try.params6] at hA hval
  obtain ⟨v0, vs0, d0, ds0, p0, q0, hargs, rfl, rfl, h0, r0⟩ := trodAll_cons hA
  obtain ⟨v1, vs1, d1, ds1, p1, q1, rfl, rfl, rfl, h1, r1⟩ := trodAll_cons r0
  obtain ⟨v2, vs2, d2, ds2, p2, q2, rfl, rfl, rfl, h2, r2⟩ := trodAll_cons r1
  obtain ⟨rfl, rfl, rfl⟩ := trodAll_nil r2
  obtain rfl : args = #[v0, v1, v2] := by cases args; simp_all
  obtain ⟨rfl, rfl⟩ := trodVars_none hV
  have k0 := h0
  have lt0 : ∀ x ∈ p0, x.block < W.heap.size := by obtain ⟨m, hm⟩ := k0; exact DataW.trod_lt m _ _ _ hm
  have k1 := h1
  have lt1 : ∀ x ∈ p1, x.block < W.heap.size := by obtain ⟨m, hm⟩ := k1; exact DataW.trod_lt m _ _ _ hm
  have k2 := h2
  have lt2 : ∀ x ∈ p2, x.block < W.heap.size := by obtain ⟨m, hm⟩ := k2; exact DataW.trod_lt m _ _ _ hm
  obtain ⟨a0, rfl, rfl, rfl, f0⟩ := open_int Try.underlying3 (hval 0 3 v0 rfl rfl) h0
  obtain ⟨a1, rfl, rfl, rfl, f1⟩ := open_int Try.underlying30 (hval 1 30 v1 rfl rfl) h1
  obtain ⟨a2_0, a2_1, a2_2, f2, rfl⟩ := open_steps (hval 2 22 v2 rfl rfl) h2
  clear hA0 hval0
  refine (mailboxApart_walk a0 a1 a2_0 a2_1 a2_2 W f0 f1 f2).mono fun e W' ⟨he, bel⟩ => ?_
  subst he
  exact ⟨_, rfl, _, _, _, [], _, [], hW', trodAll_mk1 (shut_bool Try.underlying4 _), (trodAll_cons_mk (Below.trod mailboxApart_laid (by kernel_rfl) (of_decide_eq_true (by kernel_rfl)) k0 bel lt0) (trodAll_cons_mk (Below.trod mailboxApart_laid (by kernel_rfl) (of_decide_eq_true (by kernel_rfl)) k1 bel lt1) (trodAll_cons_mk (Below.trod mailboxApart_laid (by kernel_rfl) (of_decide_eq_true (by kernel_rfl)) k2 bel lt2) trodAll_mk0))), rfl, bel.frame _, fun h => by cases h⟩
theorem mailboxApart_holds : Rows.MailboxApartSaid :=
  OpenClaim.holds_of_wide 6 Try.f6 rfl rfl rfl rfl rfl rfl rfl ⟨rfl, rfl, rfl, rfl, rfl⟩ rfl rfl rfl rfl rfl (by kernel_rfl) Try.func6 (by kernel_rfl)
    (of_decide_eq_true (by kernel_rfl)) (by unfold Func.isWrapper; first | (rw [if_pos (by decide +kernel)]; kernel_rfl) | (rw [if_neg (by decide +kernel)]; exact ⟨rfl, rfl⟩))
    (fun os started H enc _ => mailboxApart_lifted os started H enc)
#print axioms mailboxApart_holds
end Go.Proofs.Ytogicnbocefkbaa
