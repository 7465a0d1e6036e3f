/-
  The same again goes the same: two mails to which the same is done answer the same, for every number of boxes and every steps; the law answers true and its arguments read as before.
-/
import Derived.Test.YtogicnbocefkbaaLaw15
import Derived.Test.YtogicnbocefkbaaNum
import Derived.Test.YtogicnbocefkbaaSteps
namespace Go.Proofs.Ytogicnbocefkbaa
open Go.ChangeShapes Go.WideShapes Go.ChangeAt Go.RowKit Go.Hg
open Go.ChangeMaps (open_string shut_string)
set_option linter.unusedSimpArgs false
set_option linter.unusedVariables false
def Inner (w0 : World) (B : Nat) (k bx : Int) (s : ByteArray) (n : Int) (m m2 : Nat) (L : List (List Body)) (X : List Body) (ua : Option Addr) (uc : Nat) (ub : Option Addr) (ud : Nat) (w : World) : Prop :=
  At w0 [rows 34 256 (.slice ua X.length uc) X.length (bls X), rows 34 256 (.slice ub X.length ud) X.length (bls X), mail m2 L, mail m L, raw B #[.int .i64 k, .int .u16 bx, .string s, .int .i64 n] 32] w
def Both (w0 : World) (m m2 : Nat) (w : World) : Prop := ∃ L, MailOK L ∧ At w0 [mail m L, mail m2 L] w
set_option maxRecDepth 10000 in
set_option maxHeartbeats 2000000 in
theorem mailboxAgain_walk (z0 : Int) (a : Option Addr) (len cap : Nat) (w : World) (h0 : (Lit.int .i64 z0).wf = true) (h1 : StepRow w a len) :
    Calls Try.prog 8 #[.int .i64 z0, .slice a len cap] w fun e w' => e = .returned (.bool true) ∧ Below w.heap.size w w' := by
  obtain ⟨hlen, b, off, hcell⟩ := h1
  have H := At.start w
  have hM0 := MailOK.new z0
  go_enter Try.func8, Try.ntmps8
  go_wp2_with fail
  refine (shown_c H).mono ?_; rintro e w' ⟨rfl, H⟩
  go_wp2_with fail
  refine (new_c H _).mono ?_; rintro e w' ⟨m, rfl, H⟩
  go_wp2_with fail
  refine (new_c H _).mono ?_; rintro e w' ⟨m2, rfl, H⟩
  go_wp2_with fail
  go_loopw [8] (fun i wr => ∃ j : Nat, (j : Int) ≤ 100 ∧ i = .int .i64 j ∧ Both w m m2 wr) (fun i _ => 100 - (intOf i).toNat)
  case atStart => exact ⟨0, by omega, rfl, _, hM0, H.pull 1 rfl⟩
  case round =>
    clear H hM0
    obtain ⟨j, hj, rfl, L, hM, H⟩ := hrel
    by_cases h1 : (j : Int) < len
    · by_cases h2 : (j : Int) < 100
      · obtain ⟨ha, hblt, k, bx, s, n, hst, hbx0, hbx1, hs⟩ := hcell j (by omega)
        subst ha
        clear hcell
        have hst' : wr.rangeAt b (off + j * 4) (stepC k bx s n) := fun q v hv => (H.below.cell hblt).trans (hst q v hv)
        clear hst
        go_wp2_with ((with_reducible refine wpList_op rfl ?_); intro _ hK; first | (refine wp_alloc_sl _ rfl info_Step H (fun B w' (H : At w [raw B _ 32, _, _] w') _ => hK _ _ ?_)) | (refine wp_store_row_sl (cells := (stepC k bx s n).toArray) _ _ _ rfl rfl rfl (by kernel_rfl) (by simp [stepC, Value.oneCell']) 0 H rfl rfl fun w' (H : At w [raw B #[.int .i64 k, .int .u16 bx, .string s, .int .i64 n] 32, _, _] w') => hK _ _ ?_) | (refine wp_mid _ _ rfl rfl (stepC k bx s n) (by kernel_rfl) (by kernel_rfl) hst' (hK _ _ ?_)) | (refine wp_get _ _ rfl rfl (by kernel_rfl) (raw_at (H.heap 0 rfl) rfl) (hK _ _ ?_)))
        · obtain ⟨L', hL'⟩ : ∃ L', L' = fetchL L bx.toNat n := ⟨_, rfl⟩
          obtain ⟨X, hX⟩ : ∃ X, X = fetchX L bx.toNat n := ⟨_, rfl⟩
          have hM' : MailOK L' := hL' ▸ hM.fetch _ _
          have hF : Full X := hX ▸ (fetchX_full hM _ _).1
          have hXl : (X.length : Int) ≤ 64 := by have := (fetchX_full hM bx.toNat n).2; rw [← hX] at this; omega
          obtain ⟨er, her⟩ : ∃ er, er = fetchE L bx.toNat n := ⟨_, rfl⟩
          have HL' := Lib.hid hL'
          have HX := Lib.hid hX
          have HER := Lib.hid her
          clear hL' hX her
          refine (fetch_c (H.pull 1 rfl) hM _ hbx0 (by omega) _).mono ?_; rintro e w' ⟨u, rfl, H⟩
          obtain ⟨ua, uc, rfl⟩ := H.rows_slice
          rw [← HX.out, ← HL'.out] at H
          rw [← HER.out, ← HX.out]
          go_wp2_with ((with_reducible refine wpList_op rfl ?_); intro _ hK; refine wp_get _ _ rfl rfl (by kernel_rfl) (raw_at (H.heap 2 rfl) rfl) (hK _ _ ?_))
          refine (fetch_c (H.pull 3 rfl) hM _ hbx0 (by omega) _).mono ?_; rintro e w' ⟨u, rfl, H⟩
          obtain ⟨ub, ud, rfl⟩ := H.rows_slice
          rw [← HX.out, ← HL'.out] at H
          rw [← HER.out, ← HX.out]
          have H' : Inner w B k bx s n m m2 L' X ua uc ub ud w' := (H.pull 2 rfl).maskR [true, true, true, true, true]
          clear H
          go_wp2_with fail
          go_loopw [14] (fun i wr => ∃ q : Nat, (q : Int) ≤ X.length ∧ i = .int .i64 q ∧ Inner w B k bx s n m m2 L' X ua uc ub ud wr) (fun i _ => X.length - (intOf i).toNat)
          case atStart => exact ⟨0, by omega, rfl, H'⟩
          case round =>
            clear H'
            obtain ⟨q, hq, rfl, H⟩ := hrel
            unfold Inner at H
            by_cases hlt : (q : Int) < X.length
            · obtain ⟨x, hx⟩ : ∃ x, X[q]? = some x := ⟨_, List.getElem?_eq_getElem (by omega)⟩
              have hxl : x.length = 256 := hF x (List.mem_of_getElem? hx)
              have hel := Lib.hid (elem_bls hF hx)
              rcases H.rows_value with ⟨_, hn, _⟩ | ⟨ga, oa, ca, e, _⟩
              · omega
              rcases (H.pull 1 rfl).rows_value with ⟨_, hn, _⟩ | ⟨gb, ob, cb, e', _⟩
              · omega
              cases e
              cases e'
              go_wp2_with fail
              refine wpL_begin 9 (Inner w B k bx s n m m2 L' X (some ⟨ga, oa, none⟩) uc (some ⟨gb, ob, none⟩) ud) [(0, true), (1, true), (2, true), (3, true), (4, true), (5, true), (6, true), (7, true), (8, true)] rfl (by kernel_rfl) (by kernel_rfl) ((H.drew)) ?_
              intro ops hOps hS
              replace H := H.drew
              refine wpL_take hOps hS rfl (fun _ _ _ h => h) (yl_move rfl _ rfl) ?_
              simp only [Act.put, Act.eval, List.setIfInBounds_toArray, List.set_cons_zero, List.set_cons_succ, Array.getD_eq_getD_getElem?, List.getElem?_toArray, List.getElem?_cons_zero, List.getElem?_cons_succ, Option.getD_some]
              refine wpL_take hOps hS rfl (fun _ _ _ h => h) (yl_move rfl _ rfl) ?_
              simp only [Act.put, Act.eval, List.setIfInBounds_toArray, List.set_cons_zero, List.set_cons_succ, Array.getD_eq_getD_getElem?, List.getElem?_toArray, List.getElem?_cons_zero, List.getElem?_cons_succ, Option.getD_some]
              refine wpL_take hOps hS (v := ?vOp8) rfl (fun _ _ _ h => h) (yl rfl ?yOp8) ?_
              case yOp8 => (intro w hw; go_simp; first | done | rfl)
              simp only [Act.put, Act.eval, List.setIfInBounds_toArray, List.set_cons_zero, List.set_cons_succ, Array.getD_eq_getD_getElem?, List.getElem?_toArray, List.getElem?_cons_zero, List.getElem?_cons_succ, Option.getD_some]
              refine wpL_take hOps hS rfl (fun _ _ _ h => h) (yieldsIf_load_mid rfl _ _ rfl ga (oa + q * 256) rfl (bl x) _ (fun w hw => by rw [← hel.out]; exact At.rows_elem hw (by omega)) under_body rfl (by rw [bl_length, hxl]; kernel_rfl)) ?_
              simp only [Act.put, Act.eval, List.setIfInBounds_toArray, List.set_cons_zero, List.set_cons_succ, Array.getD_eq_getD_getElem?, List.getElem?_toArray, List.getElem?_cons_zero, List.getElem?_cons_succ, Option.getD_some]
              refine wpL_take hOps hS rfl (fun _ _ _ h => h) (yl_move rfl _ rfl) ?_
              simp only [Act.put, Act.eval, List.setIfInBounds_toArray, List.set_cons_zero, List.set_cons_succ, Array.getD_eq_getD_getElem?, List.getElem?_toArray, List.getElem?_cons_zero, List.getElem?_cons_succ, Option.getD_some]
              refine wpL_take hOps hS rfl (fun _ _ _ h => h) (yl_move rfl _ rfl) ?_
              simp only [Act.put, Act.eval, List.setIfInBounds_toArray, List.set_cons_zero, List.set_cons_succ, Array.getD_eq_getD_getElem?, List.getElem?_toArray, List.getElem?_cons_zero, List.getElem?_cons_succ, Option.getD_some]
              refine wpL_take hOps hS (v := ?vOp18) rfl (fun _ _ _ h => h) (yl rfl ?yOp18) ?_
              case yOp18 => (intro w hw; go_simp; first | done | rfl)
              simp only [Act.put, Act.eval, List.setIfInBounds_toArray, List.set_cons_zero, List.set_cons_succ, Array.getD_eq_getD_getElem?, List.getElem?_toArray, List.getElem?_cons_zero, List.getElem?_cons_succ, Option.getD_some]
              refine wpL_take hOps hS rfl (fun _ _ _ h => h) (yieldsIf_load_mid rfl _ _ rfl gb (ob + q * 256) rfl (bl x) _ (fun w hw => by rw [← hel.out]; exact At.rows_elem (At.pull hw 1 rfl) (by omega)) under_body rfl (by rw [bl_length, hxl]; kernel_rfl)) ?_
              simp only [Act.put, Act.eval, List.setIfInBounds_toArray, List.set_cons_zero, List.set_cons_succ, Array.getD_eq_getD_getElem?, List.getElem?_toArray, List.getElem?_cons_zero, List.getElem?_cons_succ, Option.getD_some]
              refine wpL_take hOps hS rfl (fun _ _ _ h => h) (yl rfl fun w _ => exec_neq_bytes rfl rfl rfl under_body under_uint8 size_uint8 noguard_body hxl hxl) ?_
              simp only [Act.put, Act.eval, List.setIfInBounds_toArray, List.set_cons_zero, List.set_cons_succ, Array.getD_eq_getD_getElem?, List.getElem?_toArray, List.getElem?_cons_zero, List.getElem?_cons_succ, Option.getD_some]
              rw [beq_self_eq_true, Bool.not_true]
              refine wpL_end ?_
              clear hOps hS ops
              go_wp2
              go_roundw
              case rel => exact ⟨q + 1, by omega, by go_num, H⟩
              case measure => simp [intOf]; omega
            · go_wp2_with fail
              have HB : At w [raw B #[.int .i64 k, .int .u16 bx, .string s, .int .i64 n] 32, mail m L', mail m2 L'] _ := (((H.pull 3 rfl).pull 4 rfl).mask [true, true, false, false, true])
              clear H
              have H := HB
              clear HB
              refine wpL_begin 9 (At w [raw B #[.int .i64 k, .int .u16 bx, .string s, .int .i64 n] 32, mail m L', mail m2 L']) [(0, true), (1, true), (2, true), (4, true), (5, true), (6, true), (3, false), (7, false), (8, true)] rfl (by kernel_rfl) (by kernel_rfl) ((H.drew)) ?_
              intro ops hOps hS
              replace H := H.drew
              refine wpL_take hOps hS rfl (fun _ _ _ h => h) (yl_move rfl _ rfl) ?_
              simp only [Act.put, Act.eval, List.setIfInBounds_toArray, List.set_cons_zero, List.set_cons_succ, Array.getD_eq_getD_getElem?, List.getElem?_toArray, List.getElem?_cons_zero, List.getElem?_cons_succ, Option.getD_some]
              refine wpL_take hOps hS (v := ?vOp30) rfl (fun _ _ _ h => h) (yl rfl ?yOp30) ?_
              case yOp30 => (intro w hw; go_simp; first | done | rfl)
              simp only [Act.put, Act.eval, List.setIfInBounds_toArray, List.set_cons_zero, List.set_cons_succ, Array.getD_eq_getD_getElem?, List.getElem?_toArray, List.getElem?_cons_zero, List.getElem?_cons_succ, Option.getD_some]
              refine wpL_take hOps hS rfl (fun _ _ _ h => h) (yl_get rfl _ _ rfl rfl (by kernel_rfl) (fun w hw => raw_at (hw.heap 0 rfl) rfl)) ?_
              simp only [Act.put, Act.eval, List.setIfInBounds_toArray, List.set_cons_zero, List.set_cons_succ, Array.getD_eq_getD_getElem?, List.getElem?_toArray, List.getElem?_cons_zero, List.getElem?_cons_succ, Option.getD_some]
              refine wpL_take hOps hS rfl (fun _ _ _ h => h) (yl_move rfl _ rfl) ?_
              simp only [Act.put, Act.eval, List.setIfInBounds_toArray, List.set_cons_zero, List.set_cons_succ, Array.getD_eq_getD_getElem?, List.getElem?_toArray, List.getElem?_cons_zero, List.getElem?_cons_succ, Option.getD_some]
              refine wpL_take hOps hS (v := ?vOp37) rfl (fun _ _ _ h => h) (yl rfl ?yOp37) ?_
              case yOp37 => (intro w hw; go_simp; first | done | rfl)
              simp only [Act.put, Act.eval, List.setIfInBounds_toArray, List.set_cons_zero, List.set_cons_succ, Array.getD_eq_getD_getElem?, List.getElem?_toArray, List.getElem?_cons_zero, List.getElem?_cons_succ, Option.getD_some]
              refine wpL_take hOps hS rfl (fun _ _ _ h => h) (yl_get rfl _ _ rfl rfl (by kernel_rfl) (fun w hw => raw_at (hw.heap 0 rfl) rfl)) ?_
              simp only [Act.put, Act.eval, List.setIfInBounds_toArray, List.set_cons_zero, List.set_cons_succ, Array.getD_eq_getD_getElem?, List.getElem?_toArray, List.getElem?_cons_zero, List.getElem?_cons_succ, Option.getD_some]
              refine wpL_next hOps rfl rfl ?_
              intro K hK
              refine wp_call _ _ _ rfl Try.func17 rfl (by kernel_rfl) ?_
              simp only [List.map_toArray, List.map_cons, List.map_nil, Act.eval, Array.getD_eq_getD_getElem?, List.getElem?_toArray, List.getElem?_cons_zero, List.getElem?_cons_succ, Option.getD_some]
              refine (len_c (H.pull 1 rfl) _ hbx0 (by omega)).mono ?_; rintro e w' ⟨rfl, rfl⟩
              have hS := (H)
              refine hK _ _ hS ?_
              clear hK K
              simp only [Act.put, Act.eval, List.setIfInBounds_toArray, List.set_cons_zero, List.set_cons_succ, Array.getD_eq_getD_getElem?, List.getElem?_toArray, List.getElem?_cons_zero, List.getElem?_cons_succ, Option.getD_some]
              refine wpL_next hOps rfl rfl ?_
              intro K hK
              refine wp_call _ _ _ rfl Try.func17 rfl (by kernel_rfl) ?_
              simp only [List.map_toArray, List.map_cons, List.map_nil, Act.eval, Array.getD_eq_getD_getElem?, List.getElem?_toArray, List.getElem?_cons_zero, List.getElem?_cons_succ, Option.getD_some]
              refine (len_c (H.pull 2 rfl) _ hbx0 (by omega)).mono ?_; rintro e w' ⟨rfl, rfl⟩
              have hS := (H)
              refine hK _ _ hS ?_
              clear hK K
              simp only [Act.put, Act.eval, List.setIfInBounds_toArray, List.set_cons_zero, List.set_cons_succ, Array.getD_eq_getD_getElem?, List.getElem?_toArray, List.getElem?_cons_zero, List.getElem?_cons_succ, Option.getD_some]
              refine wpL_take hOps hS (v := ?vOp49) rfl (fun _ _ _ h => h) (yl rfl ?yOp49) ?_
              case yOp49 => (intro w hw; go_simp; first | done | rfl)
              simp only [Act.put, Act.eval, List.setIfInBounds_toArray, List.set_cons_zero, List.set_cons_succ, Array.getD_eq_getD_getElem?, List.getElem?_toArray, List.getElem?_cons_zero, List.getElem?_cons_succ, Option.getD_some]
              refine wpL_end ?_
              clear hOps hS ops
              go_wp2
              go_roundw
              case rel => exact ⟨j + 1, by omega, by go_num, L', hM', H.mask [false, true, true]⟩
              case measure => simp [intOf]; omega
        · obtain ⟨L', hL'⟩ : ∃ L', L' = putL L bx.toNat (bodyOf s) := ⟨_, rfl⟩
          have hM' : MailOK L' := hL' ▸ hM.put _ (bodyOf_length _)
          have HL' := Lib.hid hL'
          obtain ⟨er, her⟩ : ∃ er, er = putE L bx.toNat := ⟨_, rfl⟩
          have HER := Lib.hid her
          clear hL' her
          refine wpL_begin 15 (At w [raw B #[.int .i64 k, .int .u16 bx, .string s, .int .i64 n] 32]) [(0, true), (1, true), (2, true), (3, true), (4, true), (7, true), (8, true), (9, true), (10, true), (11, true), (5, false), (6, false), (12, false), (13, false), (14, true)] rfl (by kernel_rfl) (by kernel_rfl) ((H.drew.mask [true])) ?_
          intro ops hOps hS
          replace H := H.drew
          refine wpL_take hOps hS rfl (fun _ _ _ h => h) (yl_move rfl _ rfl) ?_
          simp only [Act.put, Act.eval, List.setIfInBounds_toArray, List.set_cons_zero, List.set_cons_succ, Array.getD_eq_getD_getElem?, List.getElem?_toArray, List.getElem?_cons_zero, List.getElem?_cons_succ, Option.getD_some]
          refine wpL_take hOps hS (v := ?vOp56) rfl (fun _ _ _ h => h) (yl rfl ?yOp56) ?_
          case yOp56 => (intro w hw; go_simp; first | done | rfl)
          simp only [Act.put, Act.eval, List.setIfInBounds_toArray, List.set_cons_zero, List.set_cons_succ, Array.getD_eq_getD_getElem?, List.getElem?_toArray, List.getElem?_cons_zero, List.getElem?_cons_succ, Option.getD_some]
          refine wpL_take hOps hS rfl (fun _ _ _ h => h) (yl_get rfl _ _ rfl rfl (by kernel_rfl) (fun w hw => raw_at (hw.heap 0 rfl) rfl)) ?_
          simp only [Act.put, Act.eval, List.setIfInBounds_toArray, List.set_cons_zero, List.set_cons_succ, Array.getD_eq_getD_getElem?, List.getElem?_toArray, List.getElem?_cons_zero, List.getElem?_cons_succ, Option.getD_some]
          refine wpL_take hOps hS (v := ?vOp60) rfl (fun _ _ _ h => h) (yl rfl ?yOp60) ?_
          case yOp60 => (intro w hw; go_simp; first | done | rfl)
          simp only [Act.put, Act.eval, List.setIfInBounds_toArray, List.set_cons_zero, List.set_cons_succ, Array.getD_eq_getD_getElem?, List.getElem?_toArray, List.getElem?_cons_zero, List.getElem?_cons_succ, Option.getD_some]
          refine wpL_take hOps hS rfl (fun _ _ _ h => h) (yl_get rfl _ _ rfl rfl (by kernel_rfl) (fun w hw => raw_at (hw.heap 0 rfl) rfl)) ?_
          simp only [Act.put, Act.eval, List.setIfInBounds_toArray, List.set_cons_zero, List.set_cons_succ, Array.getD_eq_getD_getElem?, List.getElem?_toArray, List.getElem?_cons_zero, List.getElem?_cons_succ, Option.getD_some]
          refine wpL_take hOps hS rfl (fun _ _ _ h => h) (yl_move rfl _ rfl) ?_
          simp only [Act.put, Act.eval, List.setIfInBounds_toArray, List.set_cons_zero, List.set_cons_succ, Array.getD_eq_getD_getElem?, List.getElem?_toArray, List.getElem?_cons_zero, List.getElem?_cons_succ, Option.getD_some]
          refine wpL_take hOps hS (v := ?vOp67) rfl (fun _ _ _ h => h) (yl rfl ?yOp67) ?_
          case yOp67 => (intro w hw; go_simp; first | done | rfl)
          simp only [Act.put, Act.eval, List.setIfInBounds_toArray, List.set_cons_zero, List.set_cons_succ, Array.getD_eq_getD_getElem?, List.getElem?_toArray, List.getElem?_cons_zero, List.getElem?_cons_succ, Option.getD_some]
          refine wpL_take hOps hS rfl (fun _ _ _ h => h) (yl_get rfl _ _ rfl rfl (by kernel_rfl) (fun w hw => raw_at (hw.heap 0 rfl) rfl)) ?_
          simp only [Act.put, Act.eval, List.setIfInBounds_toArray, List.set_cons_zero, List.set_cons_succ, Array.getD_eq_getD_getElem?, List.getElem?_toArray, List.getElem?_cons_zero, List.getElem?_cons_succ, Option.getD_some]
          refine wpL_take hOps hS (v := ?vOp71) rfl (fun _ _ _ h => h) (yl rfl ?yOp71) ?_
          case yOp71 => (intro w hw; go_simp; first | done | rfl)
          simp only [Act.put, Act.eval, List.setIfInBounds_toArray, List.set_cons_zero, List.set_cons_succ, Array.getD_eq_getD_getElem?, List.getElem?_toArray, List.getElem?_cons_zero, List.getElem?_cons_succ, Option.getD_some]
          refine wpL_take hOps hS rfl (fun _ _ _ h => h) (yl_get rfl _ _ rfl rfl (by kernel_rfl) (fun w hw => raw_at (hw.heap 0 rfl) rfl)) ?_
          simp only [Act.put, Act.eval, List.setIfInBounds_toArray, List.set_cons_zero, List.set_cons_succ, Array.getD_eq_getD_getElem?, List.getElem?_toArray, List.getElem?_cons_zero, List.getElem?_cons_succ, Option.getD_some]
          refine wpL_next hOps rfl rfl ?_
          intro K hK
          refine wp_call _ _ _ rfl Try.func12 rfl (by kernel_rfl) ?_
          simp only [List.map_toArray, List.map_cons, List.map_nil, Act.eval, Array.getD_eq_getD_getElem?, List.getElem?_toArray, List.getElem?_cons_zero, List.getElem?_cons_succ, Option.getD_some]
          refine (body_c H s hs).mono ?_; rintro e w' ⟨rfl, H⟩
          have hS := (H.mask [true])
          refine hK _ _ hS ?_
          clear hK K
          simp only [Act.put, Act.eval, List.setIfInBounds_toArray, List.set_cons_zero, List.set_cons_succ, Array.getD_eq_getD_getElem?, List.getElem?_toArray, List.getElem?_cons_zero, List.getElem?_cons_succ, Option.getD_some]
          refine wpL_next hOps rfl rfl ?_
          intro K hK
          refine wp_call _ _ _ rfl Try.func13 rfl (by kernel_rfl) ?_
          simp only [List.map_toArray, List.map_cons, List.map_nil, Act.eval, Array.getD_eq_getD_getElem?, List.getElem?_toArray, List.getElem?_cons_zero, List.getElem?_cons_succ, Option.getD_some]
          refine (put_c (H.pull 1 rfl) hM _ hbx0 (by omega) _ (bodyOf_length _)).mono ?_; rintro e w' ⟨rfl, H⟩
          rw [← HER.out]
          rw [← HL'.out] at H
          have hS := (H.mask [false, true])
          refine hK _ _ hS ?_
          clear hK K
          simp only [Act.put, Act.eval, List.setIfInBounds_toArray, List.set_cons_zero, List.set_cons_succ, Array.getD_eq_getD_getElem?, List.getElem?_toArray, List.getElem?_cons_zero, List.getElem?_cons_succ, Option.getD_some]
          refine wpL_next hOps rfl rfl ?_
          intro K hK
          refine wp_call _ _ _ rfl Try.func12 rfl (by kernel_rfl) ?_
          simp only [List.map_toArray, List.map_cons, List.map_nil, Act.eval, Array.getD_eq_getD_getElem?, List.getElem?_toArray, List.getElem?_cons_zero, List.getElem?_cons_succ, Option.getD_some]
          refine (body_c H s hs).mono ?_; rintro e w' ⟨rfl, H⟩
          have hS := (H.mask [false, true])
          refine hK _ _ hS ?_
          clear hK K
          simp only [Act.put, Act.eval, List.setIfInBounds_toArray, List.set_cons_zero, List.set_cons_succ, Array.getD_eq_getD_getElem?, List.getElem?_toArray, List.getElem?_cons_zero, List.getElem?_cons_succ, Option.getD_some]
          refine wpL_next hOps rfl rfl ?_
          intro K hK
          refine wp_call _ _ _ rfl Try.func13 rfl (by kernel_rfl) ?_
          simp only [List.map_toArray, List.map_cons, List.map_nil, Act.eval, Array.getD_eq_getD_getElem?, List.getElem?_toArray, List.getElem?_cons_zero, List.getElem?_cons_succ, Option.getD_some]
          refine (put_c (H.pull 2 rfl) hM _ hbx0 (by omega) _ (bodyOf_length _)).mono ?_; rintro e w' ⟨rfl, H⟩
          rw [← HER.out]
          rw [← HL'.out] at H
          replace H := H.pull 2 rfl
          have hS := (H.mask [true])
          refine hK _ _ hS ?_
          clear hK K
          simp only [Act.put, Act.eval, List.setIfInBounds_toArray, List.set_cons_zero, List.set_cons_succ, Array.getD_eq_getD_getElem?, List.getElem?_toArray, List.getElem?_cons_zero, List.getElem?_cons_succ, Option.getD_some]
          refine wpL_take hOps hS (v := ?vOp91) rfl (fun _ _ _ h => h) (yl rfl ?yOp91) ?_
          case yOp91 => (intro w hw; go_simp; first | done | rfl)
          simp only [Act.put, Act.eval, List.setIfInBounds_toArray, List.set_cons_zero, List.set_cons_succ, Array.getD_eq_getD_getElem?, List.getElem?_toArray, List.getElem?_cons_zero, List.getElem?_cons_succ, Option.getD_some]
          refine wpL_end ?_
          clear hOps hS ops
          go_wp2
          have HB : At w [raw B #[.int .i64 k, .int .u16 bx, .string s, .int .i64 n] 32, mail m L', mail m2 L'] _ := ((H.pull 2 rfl).pull 1 rfl).mask [true, true, true]
          clear H
          have H := HB
          clear HB
          refine wpL_begin 9 (At w [raw B #[.int .i64 k, .int .u16 bx, .string s, .int .i64 n] 32, mail m L', mail m2 L']) [(0, true), (1, true), (2, true), (4, true), (5, true), (6, true), (3, false), (7, false), (8, true)] rfl (by kernel_rfl) (by kernel_rfl) ((H.drew)) ?_
          intro ops hOps hS
          replace H := H.drew
          refine wpL_take hOps hS rfl (fun _ _ _ h => h) (yl_move rfl _ rfl) ?_
          simp only [Act.put, Act.eval, List.setIfInBounds_toArray, List.set_cons_zero, List.set_cons_succ, Array.getD_eq_getD_getElem?, List.getElem?_toArray, List.getElem?_cons_zero, List.getElem?_cons_succ, Option.getD_some]
          refine wpL_take hOps hS (v := ?vOp99) rfl (fun _ _ _ h => h) (yl rfl ?yOp99) ?_
          case yOp99 => (intro w hw; go_simp; first | done | rfl)
          simp only [Act.put, Act.eval, List.setIfInBounds_toArray, List.set_cons_zero, List.set_cons_succ, Array.getD_eq_getD_getElem?, List.getElem?_toArray, List.getElem?_cons_zero, List.getElem?_cons_succ, Option.getD_some]
          refine wpL_take hOps hS rfl (fun _ _ _ h => h) (yl_get rfl _ _ rfl rfl (by kernel_rfl) (fun w hw => raw_at (hw.heap 0 rfl) rfl)) ?_
          simp only [Act.put, Act.eval, List.setIfInBounds_toArray, List.set_cons_zero, List.set_cons_succ, Array.getD_eq_getD_getElem?, List.getElem?_toArray, List.getElem?_cons_zero, List.getElem?_cons_succ, Option.getD_some]
          refine wpL_take hOps hS rfl (fun _ _ _ h => h) (yl_move rfl _ rfl) ?_
          simp only [Act.put, Act.eval, List.setIfInBounds_toArray, List.set_cons_zero, List.set_cons_succ, Array.getD_eq_getD_getElem?, List.getElem?_toArray, List.getElem?_cons_zero, List.getElem?_cons_succ, Option.getD_some]
          refine wpL_take hOps hS (v := ?vOp106) rfl (fun _ _ _ h => h) (yl rfl ?yOp106) ?_
          case yOp106 => (intro w hw; go_simp; first | done | rfl)
          simp only [Act.put, Act.eval, List.setIfInBounds_toArray, List.set_cons_zero, List.set_cons_succ, Array.getD_eq_getD_getElem?, List.getElem?_toArray, List.getElem?_cons_zero, List.getElem?_cons_succ, Option.getD_some]
          refine wpL_take hOps hS rfl (fun _ _ _ h => h) (yl_get rfl _ _ rfl rfl (by kernel_rfl) (fun w hw => raw_at (hw.heap 0 rfl) rfl)) ?_
          simp only [Act.put, Act.eval, List.setIfInBounds_toArray, List.set_cons_zero, List.set_cons_succ, Array.getD_eq_getD_getElem?, List.getElem?_toArray, List.getElem?_cons_zero, List.getElem?_cons_succ, Option.getD_some]
          refine wpL_next hOps rfl rfl ?_
          intro K hK
          refine wp_call _ _ _ rfl Try.func17 rfl (by kernel_rfl) ?_
          simp only [List.map_toArray, List.map_cons, List.map_nil, Act.eval, Array.getD_eq_getD_getElem?, List.getElem?_toArray, List.getElem?_cons_zero, List.getElem?_cons_succ, Option.getD_some]
          refine (len_c (H.pull 1 rfl) _ hbx0 (by omega)).mono ?_; rintro e w' ⟨rfl, rfl⟩
          have hS := (H)
          refine hK _ _ hS ?_
          clear hK K
          simp only [Act.put, Act.eval, List.setIfInBounds_toArray, List.set_cons_zero, List.set_cons_succ, Array.getD_eq_getD_getElem?, List.getElem?_toArray, List.getElem?_cons_zero, List.getElem?_cons_succ, Option.getD_some]
          refine wpL_next hOps rfl rfl ?_
          intro K hK
          refine wp_call _ _ _ rfl Try.func17 rfl (by kernel_rfl) ?_
          simp only [List.map_toArray, List.map_cons, List.map_nil, Act.eval, Array.getD_eq_getD_getElem?, List.getElem?_toArray, List.getElem?_cons_zero, List.getElem?_cons_succ, Option.getD_some]
          refine (len_c (H.pull 2 rfl) _ hbx0 (by omega)).mono ?_; rintro e w' ⟨rfl, rfl⟩
          have hS := (H)
          refine hK _ _ hS ?_
          clear hK K
          simp only [Act.put, Act.eval, List.setIfInBounds_toArray, List.set_cons_zero, List.set_cons_succ, Array.getD_eq_getD_getElem?, List.getElem?_toArray, List.getElem?_cons_zero, List.getElem?_cons_succ, Option.getD_some]
          refine wpL_take hOps hS (v := ?vOp118) rfl (fun _ _ _ h => h) (yl rfl ?yOp118) ?_
          case yOp118 => (intro w hw; go_simp; first | done | rfl)
          simp only [Act.put, Act.eval, List.setIfInBounds_toArray, List.set_cons_zero, List.set_cons_succ, Array.getD_eq_getD_getElem?, List.getElem?_toArray, List.getElem?_cons_zero, List.getElem?_cons_succ, Option.getD_some]
          refine wpL_end ?_
          clear hOps hS ops
          go_wp2
          go_roundw
          case rel => exact ⟨j + 1, by omega, by go_num, L', hM', H.mask [false, true, true]⟩
          case measure => simp [intOf]; omega
      · go_wp2
        go_ret
        exact ⟨rfl, H.below⟩
    · go_wp2
      go_ret
      exact ⟨rfl, H.below⟩
theorem mailboxAgain_own : ownKnob Try.prog.godebug = none := by kernel_rfl
theorem mailboxAgain_laid : laidOutB Try.prog = true := by kernel_rfl
set_option maxRecDepth 100000 in
theorem mailboxAgain_lifted (os : Os) (started : os.Started) (H : Type) (enc : TypeId × Value → H) :
    ReturnsInHanded {} Try.checked os 8 .any (Rows.mailboxAgainSpec.pre6 enc Try.prog Try.f8 Rows.mailboxAgainRow.domain false) (Rows.mailboxAgainSpec.post enc Try.prog Try.f8 false true false false) := by
  refine returnsInHanded_of_change (C := Try.checked) mailboxAgain_own started (by kernel_rfl) Try.func8
    (ChangeSpec.witness6 (enc := enc) (C := Try.checked) false ⟨#[], #[.int .i64 0, .slice none 0 0], []⟩ 8 (by kernel_rfl) (by kernel_rfl) (by kernel_rfl) (by kernel_rfl)) ?_
  intro W base args ds gs before hval0 hW hcnd _
  have hval : ∀ (j : Nat) t v, Try.f8.params[j]? = some t → args[j]? = some v → Value.okWide Try.prog W .any base t v := hval0
  have hW' := hW
  obtain ⟨p, q, hA0, hV, rfl, hfz, hnd⟩ := hW
  have hA : DataW.TrodAll enc Try.prog W 0 (fun _ => true) true Try.f8.params.toList args.toList ds p := hA0
  rw [Try.params8] at hA hval
  obtain ⟨v0, vs0, d0, ds0, p0, q0, hargs, rfl, rfl, h0, r0⟩ := trodAll_cons hA
  obtain ⟨v1, vs1, d1, ds1, p1, q1, rfl, rfl, rfl, h1, r1⟩ := trodAll_cons r0
  obtain ⟨rfl, rfl, rfl⟩ := trodAll_nil r1
  obtain rfl : args = #[v0, v1] := by cases args; simp_all
  obtain ⟨rfl, rfl⟩ := trodVars_none hV
  have k0 := h0
  have lt0 : ∀ x ∈ p0, x.block < W.heap.size := by obtain ⟨m, hm⟩ := k0; exact DataW.trod_lt m _ _ _ hm
  have k1 := h1
  have lt1 : ∀ x ∈ p1, x.block < W.heap.size := by obtain ⟨m, hm⟩ := k1; exact DataW.trod_lt m _ _ _ hm
  obtain ⟨a0, rfl, rfl, rfl, f0⟩ := open_int Try.underlying3 (hval 0 3 v0 rfl rfl) h0
  obtain ⟨a1_0, a1_1, a1_2, f1, rfl⟩ := open_steps (hval 1 22 v1 rfl rfl) h1
  clear hA0 hval0
  refine (mailboxAgain_walk a0 a1_0 a1_1 a1_2 W f0 f1).mono fun e W' ⟨he, bel⟩ => ?_
  subst he
  exact ⟨_, rfl, _, _, _, [], _, [], hW', trodAll_mk1 (shut_bool Try.underlying4 _), (trodAll_cons_mk (Below.trod mailboxAgain_laid (by kernel_rfl) (of_decide_eq_true (by kernel_rfl)) k0 bel lt0) (trodAll_cons_mk (Below.trod mailboxAgain_laid (by kernel_rfl) (of_decide_eq_true (by kernel_rfl)) k1 bel lt1) trodAll_mk0)), rfl, bel.frame _, fun h => by cases h⟩
theorem mailboxAgain_holds : Rows.MailboxAgainSaid :=
  OpenClaim.holds_of_wide 8 Try.f8 rfl rfl rfl rfl rfl rfl rfl ⟨rfl, rfl, rfl, rfl, rfl⟩ rfl rfl rfl rfl rfl (by kernel_rfl) Try.func8 (by kernel_rfl)
    (of_decide_eq_true (by kernel_rfl)) (by unfold Func.isWrapper; first | (rw [if_pos (by decide +kernel)]; kernel_rfl) | (rw [if_neg (by decide +kernel)]; exact ⟨rfl, rfl⟩))
    (fun os started H enc _ => mailboxAgain_lifted os started H enc)
#print axioms mailboxAgain_holds
end Go.Proofs.Ytogicnbocefkbaa
