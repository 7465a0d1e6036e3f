/-
  Boxes do what the document says: every answer is the document's, and behind each Len; the law answers true for every input, and its arguments read as before.
-/
import Derived.Test.YtogicnbocefkbaaLaw15
import Derived.Test.YtogicnbocefkbaaNum
import Derived.Test.YtogicnbocefkbaaSteps
import Derived.Test.YtogicnbocefkbaaBodies
import Derived.Test.YtogicnbocefkbaaRef15
import Derived.Test.YtogicnbocefkbaaElem
namespace Go.Proofs.Ytogicnbocefkbaa
open Go.ChangeShapes Go.WideShapes Go.ChangeAt Go.RowKit Go.Hg
open Go.ChangeMaps (open_string shut_string)
set_option linter.unusedSimpArgs false
set_option linter.unusedVariables false
/-- The mail and the document's mail hold the same. -/
def PlaysR (w0 : World) (m q : Nat) (z : Int) (j : Nat) (w : World) : Prop := ∃ (L : List (List Body)) (I : List (Int × Body)), MailOK L ∧ Same z L I ∧ I.length ≤ j ∧ At w0 [mail m L, rmail q z I] w
/-- What was fetched, partly written over, and the document's. -/
def PlaysC (w0 : World) (B : Nat) (k bx : Int) (s : ByteArray) (n : Int) (m q : Nat) (z : Int) (X' X : List Body) (ua : Option Addr) (uc : Nat) (a1 : Option Addr) (c1 : Nat) (L : List (List Body)) (I : List (Int × Body)) (w : World) : Prop :=
  At w0 [rows 34 256 (.slice ua X'.length uc) X'.length (bls X'), lrow 9 1 strC (.slice a1 X.length c1) X, mail m L, rmail q z I, raw B #[.int .i64 k, .int .u16 bx, .string s, .int .i64 n] 32] w
theorem body_any {w0 w : World} {L : List SP} (H : At w0 L w) (s : ByteArray) (hs : s.size ≤ 9223372036854775807) :
    Calls Try.prog 12 #[.string s] w fun e w' => ∃ y : Body, y.length = 256 ∧ e = .returned (.agg (bv y)) ∧ At w0 L w' :=
  (body_c H s hs).mono fun _ _ h => ⟨_, bodyOf_length s, h.1, h.2⟩
theorem range_raw {w0 w : World} {L : List SP} {R : Nat} {b : Body} (H : At w0 (raw R (bv b) 34 :: L) w) : w.rangeAt R 0 (bl b) := fun j v hv => by
  rw [Nat.zero_add, raw_cell (H.heap 0 rfl)]
  simpa [bv] using hv
set_option maxRecDepth 20000 in
set_option maxHeartbeats 8000000 in
theorem mailboxPlays_walk (z0 : Int) (a : Option Addr) (len cap : Nat) (w : World) (h0 : (Lit.int .i64 z0).wf = true) (h1 : StepRow w a len) :
    Calls Try.prog 3 #[.int .i64 z0, .slice a len cap] w fun e w' => e = .returned (.bool true) ∧ Below w.heap.size w w' := by
  obtain ⟨hlen, b, off, hcell⟩ := h1
  have H := At.start w
  have hM0 := MailOK.new z0
  go_enter Try.func3, Try.ntmps3
  go_wp2_with fail
  refine (shown_c H).mono ?_; rintro e w' ⟨rfl, H⟩
  go_wp2_with fail
  refine (new_c H _).mono ?_; rintro e w' ⟨m, rfl, H⟩
  go_wp2_with ((with_reducible refine wpList_op rfl ?_); intro _ hK; refine wp_box_sl (v := .agg #[.int .i64 z0, .slice none 0 0]) _ _ rfl rfl H (fun q w' (H : At w [raw q #[.int .i64 z0, .slice none 0 0] 29, _] w') _ => hK _ _ ?_))
  have H := rmail_new H
  go_loopw [8] (fun i wr => ∃ j : Nat, (j : Int) ≤ 200 ∧ i = .int .i64 j ∧ PlaysR w m q z0 j wr) (fun i _ => 200 - (intOf i).toNat)
  case atStart => exact ⟨0, by omega, rfl, _, _, hM0, Same.new z0, by simp, H.pull 1 rfl⟩
  case round =>
    clear H hM0
    obtain ⟨j, hj, rfl, L, I, hM, hSm, hI, H⟩ := hrel
    by_cases h1 : (j : Int) < len
    · by_cases h2 : (j : Int) < 200
      · obtain ⟨ha, hblt, k, bx, s, n, hst, hbx0, hbx1, hs⟩ := hcell j (by omega)
        subst ha
        clear hcell
        have hst' := Lib.hid (show wr.rangeAt b (off + j * 4) (stepC k bx s n) from fun q v hv => (H.below.cell hblt).trans (hst q v hv))
        clear hst
        go_wp2_with ((with_reducible refine wpList_op rfl ?_); intro _ hK; first | (refine wp_alloc_sl _ rfl info_Step H (fun B w' (H : At w [raw B _ 32, _, _] w') _ => hK _ _ ?_)) | (refine wp_store_row_sl (cells := (stepC k bx s n).toArray) _ _ _ rfl rfl rfl (by kernel_rfl) (by simp [stepC, Value.oneCell']) 0 H rfl rfl fun w' (H : At w [raw B #[.int .i64 k, .int .u16 bx, .string s, .int .i64 n] 32, _, _] w') => hK _ _ ?_) | (refine wp_mid 32 _ rfl rfl (stepC k bx s n) (by kernel_rfl) (by kernel_rfl) hst'.out (hK _ _ ?_)) | (refine wp_get _ _ rfl rfl (by kernel_rfl) (raw_at (H.heap 0 rfl) rfl) (hK _ _ ?_)))
        refine (body_c H s hs).mono ?_; rintro e w' ⟨rfl, H⟩
        obtain ⟨bo, hbo⟩ : ∃ bo, bo = bodyOf s := ⟨_, rfl⟩
        have hbl : bo.length = 256 := by rw [hbo, bodyOf_length]
        rw [← hbo]
        clear hbo
        have hi2 := Lib.hid (show (Try.prog.info? 34).map (·.size) = some (bv bo).size by rw [bv_size, hbl]; kernel_rfl)
        have hs2 := Lib.hid (show (bv zb).size = (bv bo).size by rw [bv_size, bv_size, hbl]; rfl)
        go_wp2_with ((with_reducible refine wpList_op rfl ?_); intro _ hK; first | (refine wp_alloc_sl (z := .agg (bv zb)) _ rfl info_body H (fun R w' (H : At w [raw R (bv zb) 34, _, _, _] w') _ => hK _ _ ?_)) | (refine wp_store_row_sl (cells := bv bo) 34 _ _ rfl rfl rfl hi2.out (one_bl _) 0 H rfl hs2.out fun w' (H : At w [raw R (bv bo) 34, _, _, _] w') => hK _ _ ?_) | (refine wp_get _ _ rfl rfl (by kernel_rfl) (raw_at (H.heap 1 rfl) rfl) (hK _ _ ?_)))
        · obtain ⟨L', hL'⟩ : ∃ L', L' = putL L bx.toNat bo := ⟨_, rfl⟩
          have hM' : MailOK L' := hL' ▸ hM.put _ hbl
          have HL' := Lib.hid hL'
          obtain ⟨er, her⟩ : ∃ er, er = putE L bx.toNat := ⟨_, rfl⟩
          have HER := Lib.hid her
          clear hL' her
          refine wpL_begin 11 (At w [raw R (bv bo) 34, raw B #[.int .i64 k, .int .u16 bx, .string s, .int .i64 n] 32]) [(0, true), (1, true), (2, true), (4, true), (5, true), (6, true), (7, true), (8, true), (3, false), (9, false), (10, true)] rfl (by kernel_rfl) (by kernel_rfl) ((H.drew.mask [true, true])) ?_
          intro ops hOps hS
          replace H := H.drew
          refine wpL_take hOps hS rfl (fun _ _ _ h => h) (yl_move rfl _ rfl) ?_
          simp only [Act.put, Act.eval, List.setIfInBounds_toArray, List.set_cons_zero, List.set_cons_succ, Array.getD_eq_getD_getElem?, List.getElem?_toArray, List.getElem?_cons_zero, List.getElem?_cons_succ, Option.getD_some]
          refine wpL_take hOps hS rfl (fun _ _ _ h => h) (yl_move rfl _ rfl) ?_
          simp only [Act.put, Act.eval, List.setIfInBounds_toArray, List.set_cons_zero, List.set_cons_succ, Array.getD_eq_getD_getElem?, List.getElem?_toArray, List.getElem?_cons_zero, List.getElem?_cons_succ, Option.getD_some]
          refine wpL_take hOps hS rfl (fun _ _ _ h => h) (yl_load_row rfl _ _ rfl _ rfl _ _ _ _ under_body rfl hi2.out (fun w hw => hw.heap 0 rfl)) ?_
          simp only [Act.put, Act.eval, List.setIfInBounds_toArray, List.set_cons_zero, List.set_cons_succ, Array.getD_eq_getD_getElem?, List.getElem?_toArray, List.getElem?_cons_zero, List.getElem?_cons_succ, Option.getD_some]
          refine wpL_take hOps hS rfl (fun _ _ _ h => h) (yl_move rfl _ rfl) ?_
          simp only [Act.put, Act.eval, List.setIfInBounds_toArray, List.set_cons_zero, List.set_cons_succ, Array.getD_eq_getD_getElem?, List.getElem?_toArray, List.getElem?_cons_zero, List.getElem?_cons_succ, Option.getD_some]
          refine wpL_take hOps hS (v := ?vOp14) rfl (fun _ _ _ h => h) (yl rfl ?yOp14) ?_
          case yOp14 => (intro w hw; go_simp; first | done | rfl)
          simp only [Act.put, Act.eval, List.setIfInBounds_toArray, List.set_cons_zero, List.set_cons_succ, Array.getD_eq_getD_getElem?, List.getElem?_toArray, List.getElem?_cons_zero, List.getElem?_cons_succ, Option.getD_some]
          refine wpL_take hOps hS rfl (fun _ _ _ h => h) (yl_get rfl _ _ rfl rfl (by kernel_rfl) (fun w hw => raw_at (hw.heap 1 rfl) rfl)) ?_
          simp only [Act.put, Act.eval, List.setIfInBounds_toArray, List.set_cons_zero, List.set_cons_succ, Array.getD_eq_getD_getElem?, List.getElem?_toArray, List.getElem?_cons_zero, List.getElem?_cons_succ, Option.getD_some]
          refine wpL_take hOps hS (v := ?vOp18) rfl (fun _ _ _ h => h) (yl rfl ?yOp18) ?_
          case yOp18 => (intro w hw; go_simp; first | done | rfl)
          simp only [Act.put, Act.eval, List.setIfInBounds_toArray, List.set_cons_zero, List.set_cons_succ, Array.getD_eq_getD_getElem?, List.getElem?_toArray, List.getElem?_cons_zero, List.getElem?_cons_succ, Option.getD_some]
          refine wpL_take hOps hS rfl (fun _ _ _ h => h) (yl rfl fun w hw => exec_string_of rfl under_bytes under_uint8 under_str rfl hbl (range_raw hw)) ?_
          simp only [Act.put, Act.eval, List.setIfInBounds_toArray, List.set_cons_zero, List.set_cons_succ, Array.getD_eq_getD_getElem?, List.getElem?_toArray, List.getElem?_cons_zero, List.getElem?_cons_succ, Option.getD_some]
          refine wpL_next hOps rfl rfl ?_
          intro K hK
          refine wp_call _ _ _ rfl Try.func13 rfl (by kernel_rfl) ?_
          simp only [List.map_toArray, List.map_cons, List.map_nil, Act.eval, Array.getD_eq_getD_getElem?, List.getElem?_toArray, List.getElem?_cons_zero, List.getElem?_cons_succ, Option.getD_some]
          refine (put_c (H.pull 2 rfl) hM _ hbx0 (by omega) _ hbl).mono ?_; rintro e w' ⟨rfl, H⟩
          rw [← HER.out]
          rw [← HL'.out] at H
          have hS := (H.mask [false, true, true])
          refine hK _ _ hS ?_
          clear hK K
          simp only [Act.put, Act.eval, List.setIfInBounds_toArray, List.set_cons_zero, List.set_cons_succ, Array.getD_eq_getD_getElem?, List.getElem?_toArray, List.getElem?_cons_zero, List.getElem?_cons_succ, Option.getD_some]
          refine wpL_next hOps rfl rfl ?_
          intro K hK
          refine wp_call _ _ _ rfl Try.func14 rfl (by kernel_rfl) ?_
          simp only [List.map_toArray, List.map_cons, List.map_nil, Act.eval, Array.getD_eq_getD_getElem?, List.getElem?_toArray, List.getElem?_cons_zero, List.getElem?_cons_succ, Option.getD_some]
          refine (rput_c (H.pull 3 rfl) hSm (by omega) _ hbx0 (by omega) bo).mono ?_; rintro e w' ⟨I', rfl, hS', hI2, H⟩
          rw [← HER.out]
          rw [← HL'.out] at hS'
          have hI' : I'.length ≤ j + 1 := by omega
          have hS := (H.mask [false, false, true, true])
          refine hK _ _ hS ?_
          clear hK K
          simp only [Act.put, Act.eval, List.setIfInBounds_toArray, List.set_cons_zero, List.set_cons_succ, Array.getD_eq_getD_getElem?, List.getElem?_toArray, List.getElem?_cons_zero, List.getElem?_cons_succ, Option.getD_some]
          refine wpL_take hOps hS (v := ?vOp30) rfl (fun _ _ _ h => h) (yl rfl ?yOp30) ?_
          case yOp30 => (intro w hw; go_simp; first | done | rfl)
          simp only [Act.put, Act.eval, List.setIfInBounds_toArray, List.set_cons_zero, List.set_cons_succ, Array.getD_eq_getD_getElem?, List.getElem?_toArray, List.getElem?_cons_zero, List.getElem?_cons_succ, Option.getD_some]
          refine wpL_end ?_
          clear hOps hS ops
          go_wp2
          have HB : At w [raw B #[.int .i64 k, .int .u16 bx, .string s, .int .i64 n] 32, mail m L', rmail q z0 I'] _ := ((((H).pull 1 rfl).pull 3 rfl).mask [true, true, true])
          clear H
          have H := HB
          clear HB
          refine wpL_begin 8 (At w [raw B #[.int .i64 k, .int .u16 bx, .string s, .int .i64 n] 32, mail m L', rmail q z0 I']) [(0, true), (1, true), (3, true), (4, true), (5, true), (2, false), (6, false), (7, true)] rfl (by kernel_rfl) (by kernel_rfl) ((H.drew)) ?_
          intro ops hOps hS
          replace H := H.drew
          refine wpL_take hOps hS rfl (fun _ _ _ h => h) (yl_move rfl _ rfl) ?_
          simp only [Act.put, Act.eval, List.setIfInBounds_toArray, List.set_cons_zero, List.set_cons_succ, Array.getD_eq_getD_getElem?, List.getElem?_toArray, List.getElem?_cons_zero, List.getElem?_cons_succ, Option.getD_some]
          refine wpL_take hOps hS rfl (fun _ _ _ h => h) (yl_move rfl _ rfl) ?_
          simp only [Act.put, Act.eval, List.setIfInBounds_toArray, List.set_cons_zero, List.set_cons_succ, Array.getD_eq_getD_getElem?, List.getElem?_toArray, List.getElem?_cons_zero, List.getElem?_cons_succ, Option.getD_some]
          refine wpL_take hOps hS rfl (fun _ _ _ h => h) (yl_move rfl _ rfl) ?_
          simp only [Act.put, Act.eval, List.setIfInBounds_toArray, List.set_cons_zero, List.set_cons_succ, Array.getD_eq_getD_getElem?, List.getElem?_toArray, List.getElem?_cons_zero, List.getElem?_cons_succ, Option.getD_some]
          refine wpL_take hOps hS (v := ?vOp44) rfl (fun _ _ _ h => h) (yl rfl ?yOp44) ?_
          case yOp44 => (intro w hw; go_simp; first | done | rfl)
          simp only [Act.put, Act.eval, List.setIfInBounds_toArray, List.set_cons_zero, List.set_cons_succ, Array.getD_eq_getD_getElem?, List.getElem?_toArray, List.getElem?_cons_zero, List.getElem?_cons_succ, Option.getD_some]
          refine wpL_take hOps hS rfl (fun _ _ _ h => h) (yl_get rfl _ _ rfl rfl (by kernel_rfl) (fun w hw => raw_at (hw.heap 0 rfl) rfl)) ?_
          simp only [Act.put, Act.eval, List.setIfInBounds_toArray, List.set_cons_zero, List.set_cons_succ, Array.getD_eq_getD_getElem?, List.getElem?_toArray, List.getElem?_cons_zero, List.getElem?_cons_succ, Option.getD_some]
          refine wpL_next hOps rfl rfl ?_
          intro K hK
          refine wp_call _ _ _ rfl Try.func17 rfl (by kernel_rfl) ?_
          simp only [List.map_toArray, List.map_cons, List.map_nil, Act.eval, Array.getD_eq_getD_getElem?, List.getElem?_toArray, List.getElem?_cons_zero, List.getElem?_cons_succ, Option.getD_some]
          refine (len_c (H.pull 1 rfl) _ hbx0 (by omega)).mono ?_; rintro e w' ⟨rfl, rfl⟩
          have hS := (H)
          refine hK _ _ hS ?_
          clear hK K
          simp only [Act.put, Act.eval, List.setIfInBounds_toArray, List.set_cons_zero, List.set_cons_succ, Array.getD_eq_getD_getElem?, List.getElem?_toArray, List.getElem?_cons_zero, List.getElem?_cons_succ, Option.getD_some]
          refine wpL_next hOps rfl rfl ?_
          intro K hK
          refine wp_call _ _ _ rfl Try.func18 rfl (by kernel_rfl) ?_
          simp only [List.map_toArray, List.map_cons, List.map_nil, Act.eval, Array.getD_eq_getD_getElem?, List.getElem?_toArray, List.getElem?_cons_zero, List.getElem?_cons_succ, Option.getD_some]
          refine (rlen_c (H.pull 2 rfl) hS' (by omega) _ hbx0 (by omega)).mono ?_; rintro e w' ⟨rfl, rfl⟩
          have hS := (H)
          refine hK _ _ hS ?_
          clear hK K
          simp only [Act.put, Act.eval, List.setIfInBounds_toArray, List.set_cons_zero, List.set_cons_succ, Array.getD_eq_getD_getElem?, List.getElem?_toArray, List.getElem?_cons_zero, List.getElem?_cons_succ, Option.getD_some]
          refine wpL_take hOps hS (v := ?vOp56) rfl (fun _ _ _ h => h) (yl rfl ?yOp56) ?_
          case yOp56 => (intro w hw; go_simp; first | done | rfl)
          simp only [Act.put, Act.eval, List.setIfInBounds_toArray, List.set_cons_zero, List.set_cons_succ, Array.getD_eq_getD_getElem?, List.getElem?_toArray, List.getElem?_cons_zero, List.getElem?_cons_succ, Option.getD_some]
          refine wpL_end ?_
          clear hOps hS ops
          go_wp2
          go_roundw
          case rel => exact ⟨j + 1, by omega, by go_num, L', I', hM', hS', hI', H.mask [false, true, true]⟩
          case measure => simp [intOf]; omega
        · obtain ⟨L', hL'⟩ : ∃ L', L' = putL L bx.toNat bo := ⟨_, rfl⟩
          have hM' : MailOK L' := hL' ▸ hM.put _ hbl
          have HL' := Lib.hid hL'
          obtain ⟨er, her⟩ : ∃ er, er = putE L bx.toNat := ⟨_, rfl⟩
          have HER := Lib.hid her
          clear hL' her
          refine wpL_begin 11 (At w [raw R (bv bo) 34, raw B #[.int .i64 k, .int .u16 bx, .string s, .int .i64 n] 32]) [(0, true), (1, true), (2, true), (4, true), (5, true), (6, true), (7, true), (8, true), (3, false), (9, false), (10, true)] rfl (by kernel_rfl) (by kernel_rfl) ((H.drew.mask [true, true])) ?_
          intro ops hOps hS
          replace H := H.drew
          refine wpL_take hOps hS rfl (fun _ _ _ h => h) (yl_move rfl _ rfl) ?_
          simp only [Act.put, Act.eval, List.setIfInBounds_toArray, List.set_cons_zero, List.set_cons_succ, Array.getD_eq_getD_getElem?, List.getElem?_toArray, List.getElem?_cons_zero, List.getElem?_cons_succ, Option.getD_some]
          refine wpL_take hOps hS rfl (fun _ _ _ h => h) (yl_move rfl _ rfl) ?_
          simp only [Act.put, Act.eval, List.setIfInBounds_toArray, List.set_cons_zero, List.set_cons_succ, Array.getD_eq_getD_getElem?, List.getElem?_toArray, List.getElem?_cons_zero, List.getElem?_cons_succ, Option.getD_some]
          refine wpL_take hOps hS rfl (fun _ _ _ h => h) (yl_load_row rfl _ _ rfl _ rfl _ _ _ _ under_body rfl hi2.out (fun w hw => hw.heap 0 rfl)) ?_
          simp only [Act.put, Act.eval, List.setIfInBounds_toArray, List.set_cons_zero, List.set_cons_succ, Array.getD_eq_getD_getElem?, List.getElem?_toArray, List.getElem?_cons_zero, List.getElem?_cons_succ, Option.getD_some]
          refine wpL_take hOps hS rfl (fun _ _ _ h => h) (yl_move rfl _ rfl) ?_
          simp only [Act.put, Act.eval, List.setIfInBounds_toArray, List.set_cons_zero, List.set_cons_succ, Array.getD_eq_getD_getElem?, List.getElem?_toArray, List.getElem?_cons_zero, List.getElem?_cons_succ, Option.getD_some]
          refine wpL_take hOps hS (v := ?vOp72) rfl (fun _ _ _ h => h) (yl rfl ?yOp72) ?_
          case yOp72 => (intro w hw; go_simp; first | done | rfl)
          simp only [Act.put, Act.eval, List.setIfInBounds_toArray, List.set_cons_zero, List.set_cons_succ, Array.getD_eq_getD_getElem?, List.getElem?_toArray, List.getElem?_cons_zero, List.getElem?_cons_succ, Option.getD_some]
          refine wpL_take hOps hS rfl (fun _ _ _ h => h) (yl_get rfl _ _ rfl rfl (by kernel_rfl) (fun w hw => raw_at (hw.heap 1 rfl) rfl)) ?_
          simp only [Act.put, Act.eval, List.setIfInBounds_toArray, List.set_cons_zero, List.set_cons_succ, Array.getD_eq_getD_getElem?, List.getElem?_toArray, List.getElem?_cons_zero, List.getElem?_cons_succ, Option.getD_some]
          refine wpL_take hOps hS (v := ?vOp76) rfl (fun _ _ _ h => h) (yl rfl ?yOp76) ?_
          case yOp76 => (intro w hw; go_simp; first | done | rfl)
          simp only [Act.put, Act.eval, List.setIfInBounds_toArray, List.set_cons_zero, List.set_cons_succ, Array.getD_eq_getD_getElem?, List.getElem?_toArray, List.getElem?_cons_zero, List.getElem?_cons_succ, Option.getD_some]
          refine wpL_take hOps hS rfl (fun _ _ _ h => h) (yl rfl fun w hw => exec_string_of rfl under_bytes under_uint8 under_str rfl hbl (range_raw hw)) ?_
          simp only [Act.put, Act.eval, List.setIfInBounds_toArray, List.set_cons_zero, List.set_cons_succ, Array.getD_eq_getD_getElem?, List.getElem?_toArray, List.getElem?_cons_zero, List.getElem?_cons_succ, Option.getD_some]
          refine wpL_next hOps rfl rfl ?_
          intro K hK
          refine wp_call _ _ _ rfl Try.func13 rfl (by kernel_rfl) ?_
          simp only [List.map_toArray, List.map_cons, List.map_nil, Act.eval, Array.getD_eq_getD_getElem?, List.getElem?_toArray, List.getElem?_cons_zero, List.getElem?_cons_succ, Option.getD_some]
          refine (put_c (H.pull 2 rfl) hM _ hbx0 (by omega) _ hbl).mono ?_; rintro e w' ⟨rfl, H⟩
          rw [← HER.out]
          rw [← HL'.out] at H
          have hS := (H.mask [false, true, true])
          refine hK _ _ hS ?_
          clear hK K
          simp only [Act.put, Act.eval, List.setIfInBounds_toArray, List.set_cons_zero, List.set_cons_succ, Array.getD_eq_getD_getElem?, List.getElem?_toArray, List.getElem?_cons_zero, List.getElem?_cons_succ, Option.getD_some]
          refine wpL_next hOps rfl rfl ?_
          intro K hK
          refine wp_call _ _ _ rfl Try.func14 rfl (by kernel_rfl) ?_
          simp only [List.map_toArray, List.map_cons, List.map_nil, Act.eval, Array.getD_eq_getD_getElem?, List.getElem?_toArray, List.getElem?_cons_zero, List.getElem?_cons_succ, Option.getD_some]
          refine (rput_c (H.pull 3 rfl) hSm (by omega) _ hbx0 (by omega) bo).mono ?_; rintro e w' ⟨I', rfl, hS', hI2, H⟩
          rw [← HER.out]
          rw [← HL'.out] at hS'
          have hI' : I'.length ≤ j + 1 := by omega
          have hS := (H.mask [false, false, true, true])
          refine hK _ _ hS ?_
          clear hK K
          simp only [Act.put, Act.eval, List.setIfInBounds_toArray, List.set_cons_zero, List.set_cons_succ, Array.getD_eq_getD_getElem?, List.getElem?_toArray, List.getElem?_cons_zero, List.getElem?_cons_succ, Option.getD_some]
          refine wpL_take hOps hS (v := ?vOp88) rfl (fun _ _ _ h => h) (yl rfl ?yOp88) ?_
          case yOp88 => (intro w hw; go_simp; first | done | rfl)
          simp only [Act.put, Act.eval, List.setIfInBounds_toArray, List.set_cons_zero, List.set_cons_succ, Array.getD_eq_getD_getElem?, List.getElem?_toArray, List.getElem?_cons_zero, List.getElem?_cons_succ, Option.getD_some]
          refine wpL_end ?_
          clear hOps hS ops
          go_wp2
          have HB : At w [raw B #[.int .i64 k, .int .u16 bx, .string s, .int .i64 n] 32, mail m L', rmail q z0 I'] _ := ((((H).pull 1 rfl).pull 3 rfl).mask [true, true, true])
          clear H
          have H := HB
          clear HB
          refine wpL_begin 8 (At w [raw B #[.int .i64 k, .int .u16 bx, .string s, .int .i64 n] 32, mail m L', rmail q z0 I']) [(0, true), (1, true), (3, true), (4, true), (5, true), (2, false), (6, false), (7, true)] rfl (by kernel_rfl) (by kernel_rfl) ((H.drew)) ?_
          intro ops hOps hS
          replace H := H.drew
          refine wpL_take hOps hS rfl (fun _ _ _ h => h) (yl_move rfl _ rfl) ?_
          simp only [Act.put, Act.eval, List.setIfInBounds_toArray, List.set_cons_zero, List.set_cons_succ, Array.getD_eq_getD_getElem?, List.getElem?_toArray, List.getElem?_cons_zero, List.getElem?_cons_succ, Option.getD_some]
          refine wpL_take hOps hS rfl (fun _ _ _ h => h) (yl_move rfl _ rfl) ?_
          simp only [Act.put, Act.eval, List.setIfInBounds_toArray, List.set_cons_zero, List.set_cons_succ, Array.getD_eq_getD_getElem?, List.getElem?_toArray, List.getElem?_cons_zero, List.getElem?_cons_succ, Option.getD_some]
          refine wpL_take hOps hS rfl (fun _ _ _ h => h) (yl_move rfl _ rfl) ?_
          simp only [Act.put, Act.eval, List.setIfInBounds_toArray, List.set_cons_zero, List.set_cons_succ, Array.getD_eq_getD_getElem?, List.getElem?_toArray, List.getElem?_cons_zero, List.getElem?_cons_succ, Option.getD_some]
          refine wpL_take hOps hS (v := ?vOp102) rfl (fun _ _ _ h => h) (yl rfl ?yOp102) ?_
          case yOp102 => (intro w hw; go_simp; first | done | rfl)
          simp only [Act.put, Act.eval, List.setIfInBounds_toArray, List.set_cons_zero, List.set_cons_succ, Array.getD_eq_getD_getElem?, List.getElem?_toArray, List.getElem?_cons_zero, List.getElem?_cons_succ, Option.getD_some]
          refine wpL_take hOps hS rfl (fun _ _ _ h => h) (yl_get rfl _ _ rfl rfl (by kernel_rfl) (fun w hw => raw_at (hw.heap 0 rfl) rfl)) ?_
          simp only [Act.put, Act.eval, List.setIfInBounds_toArray, List.set_cons_zero, List.set_cons_succ, Array.getD_eq_getD_getElem?, List.getElem?_toArray, List.getElem?_cons_zero, List.getElem?_cons_succ, Option.getD_some]
          refine wpL_next hOps rfl rfl ?_
          intro K hK
          refine wp_call _ _ _ rfl Try.func17 rfl (by kernel_rfl) ?_
          simp only [List.map_toArray, List.map_cons, List.map_nil, Act.eval, Array.getD_eq_getD_getElem?, List.getElem?_toArray, List.getElem?_cons_zero, List.getElem?_cons_succ, Option.getD_some]
          refine (len_c (H.pull 1 rfl) _ hbx0 (by omega)).mono ?_; rintro e w' ⟨rfl, rfl⟩
          have hS := (H)
          refine hK _ _ hS ?_
          clear hK K
          simp only [Act.put, Act.eval, List.setIfInBounds_toArray, List.set_cons_zero, List.set_cons_succ, Array.getD_eq_getD_getElem?, List.getElem?_toArray, List.getElem?_cons_zero, List.getElem?_cons_succ, Option.getD_some]
          refine wpL_next hOps rfl rfl ?_
          intro K hK
          refine wp_call _ _ _ rfl Try.func18 rfl (by kernel_rfl) ?_
          simp only [List.map_toArray, List.map_cons, List.map_nil, Act.eval, Array.getD_eq_getD_getElem?, List.getElem?_toArray, List.getElem?_cons_zero, List.getElem?_cons_succ, Option.getD_some]
          refine (rlen_c (H.pull 2 rfl) hS' (by omega) _ hbx0 (by omega)).mono ?_; rintro e w' ⟨rfl, rfl⟩
          have hS := (H)
          refine hK _ _ hS ?_
          clear hK K
          simp only [Act.put, Act.eval, List.setIfInBounds_toArray, List.set_cons_zero, List.set_cons_succ, Array.getD_eq_getD_getElem?, List.getElem?_toArray, List.getElem?_cons_zero, List.getElem?_cons_succ, Option.getD_some]
          refine wpL_take hOps hS (v := ?vOp114) rfl (fun _ _ _ h => h) (yl rfl ?yOp114) ?_
          case yOp114 => (intro w hw; go_simp; first | done | rfl)
          simp only [Act.put, Act.eval, List.setIfInBounds_toArray, List.set_cons_zero, List.set_cons_succ, Array.getD_eq_getD_getElem?, List.getElem?_toArray, List.getElem?_cons_zero, List.getElem?_cons_succ, Option.getD_some]
          refine wpL_end ?_
          clear hOps hS ops
          go_wp2
          go_roundw
          case rel => exact ⟨j + 1, by omega, by go_num, L', I', hM', hS', hI', H.mask [false, true, true]⟩
          case measure => simp [intOf]; omega
        · obtain ⟨L', hL'⟩ : ∃ L', L' = fetchL L bx.toNat n := ⟨_, rfl⟩
          obtain ⟨X, hX⟩ : ∃ X, X = fetchX L bx.toNat n := ⟨_, rfl⟩
          have hM' : MailOK L' := hL' ▸ hM.fetch _ _
          have hF : Full X := hX ▸ (fetchX_full hM _ _).1
          have hXl : (X.length : Int) ≤ 64 := by have := (fetchX_full hM bx.toNat n).2; rw [← hX] at this; omega
          obtain ⟨er, her⟩ : ∃ er, er = fetchE L bx.toNat n := ⟨_, rfl⟩
          have HL' := Lib.hid hL'
          have HX := Lib.hid hX
          have HER := Lib.hid her
          clear hL' hX her
          refine (fetch_c (H.pull 2 rfl) hM _ hbx0 (by omega) _).mono ?_; rintro e w' ⟨u, rfl, H⟩
          obtain ⟨ua, uc, rfl⟩ := H.rows_slice
          rw [← HX.out, ← HL'.out] at H
          rw [← HER.out, ← HX.out]
          go_wp2_with ((with_reducible refine wpList_op rfl ?_); intro _ hK; refine wp_get _ _ rfl rfl (by kernel_rfl) (raw_at (H.heap 3 rfl) rfl) (hK _ _ ?_))
          refine (rfetch_c (H.pull 4 rfl) hSm (by omega) _ hbx0 (by omega) _).mono ?_; rintro e w' ⟨I', a1, c1, rfl, hS', hI2, H⟩
          rw [← HX.out] at H
          rw [← HL'.out] at hS'
          rw [← HER.out, ← HX.out]
          have hI' : I'.length ≤ j + 1 := by omega
          have H' : PlaysC w B k bx s n m q z0 X X ua uc a1 c1 L' I' w' := (((((((H).pull 5 rfl).pull 2 rfl).pull 4 rfl).pull 3 rfl).pull 4 rfl).mask [true, true, true, true, true])
          clear H
          go_wp2_with fail
          go_loopw [16] (fun i wr => ∃ (r : Nat) (Y : List Body), (r : Int) ≤ X.length ∧ i = .int .i64 r ∧ Y.length = X.length ∧ Full Y ∧ (∀ i, r ≤ i → Y[i]? = X[i]?) ∧ PlaysC w B k bx s n m q z0 Y X ua uc a1 c1 L' I' wr) (fun i _ => X.length - (intOf i).toNat)
          case atStart => exact ⟨0, X, by omega, rfl, rfl, hF, fun _ _ => rfl, H'⟩
          case round =>
            clear H'
            obtain ⟨r, Y, hr, rfl, hYl, hFY, hYX, H⟩ := hrel
            unfold PlaysC at H
            have HYX := Lib.hid hYX
            have HYL := Lib.hid hYl
            clear hYX hYl
            by_cases hlt : (r : Int) < X.length
            · obtain ⟨x, hx⟩ : ∃ x, X[r]? = some x := ⟨_, List.getElem?_eq_getElem (by omega)⟩
              have hxl : x.length = 256 := hF x (List.mem_of_getElem? hx)
              have HZ := Lib.hid hx
              have HZY := Lib.hid ((HYX.out r (Nat.le_refl _)).trans hx)
              clear hx
              rcases H.rows_value with ⟨_, hn0, _⟩ | ⟨ga, oa, ca, e, _⟩
              · exact absurd (HYL.out.symm.trans hn0) (by omega)
              cases e
              obtain ⟨gb, ob, rfl⟩ := lrow_place H 1 rfl (by omega)
              go_wp2_with fail
              refine wpL_begin 10 (PlaysC w B k bx s n m q z0 Y X (some ⟨ga, oa, none⟩) uc (some ⟨gb, ob, none⟩) c1 L' I') [(0, true), (1, true), (2, true), (3, true), (4, true), (5, true), (6, true), (7, true), (8, true), (9, true)] rfl (by kernel_rfl) (by kernel_rfl) ((H.drew)) ?_
              intro ops hOps hS
              replace H := H.drew
              refine wpL_take hOps hS rfl (fun _ _ _ h => h) (yl_move rfl _ rfl) ?_
              simp only [Act.put, Act.eval, List.setIfInBounds_toArray, List.set_cons_zero, List.set_cons_succ, Array.getD_eq_getD_getElem?, List.getElem?_toArray, List.getElem?_cons_zero, List.getElem?_cons_succ, Option.getD_some]
              refine wpL_take hOps hS rfl (fun _ _ _ h => h) (yl_move rfl _ rfl) ?_
              simp only [Act.put, Act.eval, List.setIfInBounds_toArray, List.set_cons_zero, List.set_cons_succ, Array.getD_eq_getD_getElem?, List.getElem?_toArray, List.getElem?_cons_zero, List.getElem?_cons_succ, Option.getD_some]
              refine wpL_take hOps hS (v := ?vOp125) rfl (fun _ _ _ h => h) (yl rfl ?yOp125) ?_
              case yOp125 => (intro w hw; go_simp; first | done | rfl)
              simp only [Act.put, Act.eval, List.setIfInBounds_toArray, List.set_cons_zero, List.set_cons_succ, Array.getD_eq_getD_getElem?, List.getElem?_toArray, List.getElem?_cons_zero, List.getElem?_cons_succ, Option.getD_some]
              refine wpL_take hOps hS (v := ?vOp127) rfl (fun _ _ _ h => h) (yl rfl ?yOp127) ?_
              case yOp127 => (intro w hw; go_simp; first | done | rfl)
              simp only [Act.put, Act.eval, List.setIfInBounds_toArray, List.set_cons_zero, List.set_cons_succ, Array.getD_eq_getD_getElem?, List.getElem?_toArray, List.getElem?_cons_zero, List.getElem?_cons_succ, Option.getD_some]
              refine wpL_take hOps hS rfl (fun _ _ _ h => h) (yl rfl fun w hw => exec_string_of rfl under_bytes under_uint8 under_str rfl hxl (rows_at hw 0 rfl hFY HZY.out)) ?_
              simp only [Act.put, Act.eval, List.setIfInBounds_toArray, List.set_cons_zero, List.set_cons_succ, Array.getD_eq_getD_getElem?, List.getElem?_toArray, List.getElem?_cons_zero, List.getElem?_cons_succ, Option.getD_some]
              refine wpL_take hOps hS rfl (fun _ _ _ h => h) (yl_move rfl _ rfl) ?_
              simp only [Act.put, Act.eval, List.setIfInBounds_toArray, List.set_cons_zero, List.set_cons_succ, Array.getD_eq_getD_getElem?, List.getElem?_toArray, List.getElem?_cons_zero, List.getElem?_cons_succ, Option.getD_some]
              refine wpL_take hOps hS rfl (fun _ _ _ h => h) (yl_move rfl _ rfl) ?_
              simp only [Act.put, Act.eval, List.setIfInBounds_toArray, List.set_cons_zero, List.set_cons_succ, Array.getD_eq_getD_getElem?, List.getElem?_toArray, List.getElem?_cons_zero, List.getElem?_cons_succ, Option.getD_some]
              refine wpL_take hOps hS (v := ?vOp137) rfl (fun _ _ _ h => h) (yl rfl ?yOp137) ?_
              case yOp137 => (intro w hw; go_simp; first | done | rfl)
              simp only [Act.put, Act.eval, List.setIfInBounds_toArray, List.set_cons_zero, List.set_cons_succ, Array.getD_eq_getD_getElem?, List.getElem?_toArray, List.getElem?_cons_zero, List.getElem?_cons_succ, Option.getD_some]
              refine wpL_take hOps hS rfl (fun _ _ _ h => h) (yl_get rfl _ _ rfl rfl (by kernel_rfl) (fun w hw => by simpa using lrow_cell el_str (j := 0) hw 1 rfl HZ.out rfl)) ?_
              simp only [Act.put, Act.eval, List.setIfInBounds_toArray, List.set_cons_zero, List.set_cons_succ, Array.getD_eq_getD_getElem?, List.getElem?_toArray, List.getElem?_cons_zero, List.getElem?_cons_succ, Option.getD_some]
              refine wpL_take hOps hS (v := ?vOp141) rfl (fun _ _ _ h => h) (yl rfl ?yOp141) ?_
              case yOp141 => (intro w hw; go_simp; first | done | rfl)
              simp only [Act.put, Act.eval, List.setIfInBounds_toArray, List.set_cons_zero, List.set_cons_succ, Array.getD_eq_getD_getElem?, List.getElem?_toArray, List.getElem?_cons_zero, List.getElem?_cons_succ, Option.getD_some]
              refine wpL_end ?_
              clear hOps hS ops
              go_wp2_with fail
              refine (body_any H _ (by decide)).mono ?_; rintro e w' ⟨y, hy, rfl, H⟩
              go_wp2_with ((with_reducible refine wpList_op rfl ?_); intro _ hK; refine wp_store_elem _ _ rfl rfl rfl hy H hFY (by have := HYL.out; omega) (fun w' H => hK _ _ ?_))
              go_roundw
              case rel => exact ⟨r + 1, Y.set r y, by omega, by go_num, by rw [List.length_set, HYL.out], hFY.set r hy, fun i hi => by rw [List.getElem?_set_ne (by omega), HYX.out i (by omega)], H⟩
              case measure => simp [intOf]; omega
            · rw [← HYL.out]
              rw [← HYL.out] at hXl hr hlt
              go_wp2_with fail
              refine (body_any H _ (by decide)).mono ?_; rintro e w' ⟨y, hy, rfl, H⟩
              go_wp2_with ((with_reducible refine wpList_op rfl ?_); intro _ hK; first | (refine wp_buildSlice_sl (v := .agg (bv y)) _ _ rfl under_bodies info_body (by show (bv zb).size = 256; rw [bv_size]; exact List.length_replicate) rfl (by show (bv y).size = 256; rw [bv_size, hy]) (by omega) (by omega) H fun C w' (H : At w [raw C (bv y) 34, _, _, _, _, _] w') _ => hK _ _ ?_) | (refine wp_app_one _ _ rfl rfl (H.pull 1 rfl) rfl 0 hy rfl (by omega) (fun bb cc w' H => hK _ _ ?_)))
              have HB : At w [raw B #[.int .i64 k, .int .u16 bx, .string s, .int .i64 n] 32, mail m L', rmail q z0 I'] _ := (((((H).pull 4 rfl).pull 4 rfl).pull 5 rfl).mask [true, true, true])
              clear H
              have H := HB
              clear HB
              refine wpL_begin 8 (At w [raw B #[.int .i64 k, .int .u16 bx, .string s, .int .i64 n] 32, mail m L', rmail q z0 I']) [(0, true), (1, true), (3, true), (4, true), (5, true), (2, false), (6, false), (7, true)] rfl (by kernel_rfl) (by kernel_rfl) ((H.drew)) ?_
              intro ops hOps hS
              replace H := H.drew
              refine wpL_take hOps hS rfl (fun _ _ _ h => h) (yl_move rfl _ rfl) ?_
              simp only [Act.put, Act.eval, List.setIfInBounds_toArray, List.set_cons_zero, List.set_cons_succ, Array.getD_eq_getD_getElem?, List.getElem?_toArray, List.getElem?_cons_zero, List.getElem?_cons_succ, Option.getD_some]
              refine wpL_take hOps hS rfl (fun _ _ _ h => h) (yl_move rfl _ rfl) ?_
              simp only [Act.put, Act.eval, List.setIfInBounds_toArray, List.set_cons_zero, List.set_cons_succ, Array.getD_eq_getD_getElem?, List.getElem?_toArray, List.getElem?_cons_zero, List.getElem?_cons_succ, Option.getD_some]
              refine wpL_take hOps hS rfl (fun _ _ _ h => h) (yl_move rfl _ rfl) ?_
              simp only [Act.put, Act.eval, List.setIfInBounds_toArray, List.set_cons_zero, List.set_cons_succ, Array.getD_eq_getD_getElem?, List.getElem?_toArray, List.getElem?_cons_zero, List.getElem?_cons_succ, Option.getD_some]
              refine wpL_take hOps hS (v := ?vOp155) rfl (fun _ _ _ h => h) (yl rfl ?yOp155) ?_
              case yOp155 => (intro w hw; go_simp; first | done | rfl)
              simp only [Act.put, Act.eval, List.setIfInBounds_toArray, List.set_cons_zero, List.set_cons_succ, Array.getD_eq_getD_getElem?, List.getElem?_toArray, List.getElem?_cons_zero, List.getElem?_cons_succ, Option.getD_some]
              refine wpL_take hOps hS rfl (fun _ _ _ h => h) (yl_get rfl _ _ rfl rfl (by kernel_rfl) (fun w hw => raw_at (hw.heap 0 rfl) rfl)) ?_
              simp only [Act.put, Act.eval, List.setIfInBounds_toArray, List.set_cons_zero, List.set_cons_succ, Array.getD_eq_getD_getElem?, List.getElem?_toArray, List.getElem?_cons_zero, List.getElem?_cons_succ, Option.getD_some]
              refine wpL_next hOps rfl rfl ?_
              intro K hK
              refine wp_call _ _ _ rfl Try.func17 rfl (by kernel_rfl) ?_
              simp only [List.map_toArray, List.map_cons, List.map_nil, Act.eval, Array.getD_eq_getD_getElem?, List.getElem?_toArray, List.getElem?_cons_zero, List.getElem?_cons_succ, Option.getD_some]
              refine (len_c (H.pull 1 rfl) _ hbx0 (by omega)).mono ?_; rintro e w' ⟨rfl, rfl⟩
              have hS := (H)
              refine hK _ _ hS ?_
              clear hK K
              simp only [Act.put, Act.eval, List.setIfInBounds_toArray, List.set_cons_zero, List.set_cons_succ, Array.getD_eq_getD_getElem?, List.getElem?_toArray, List.getElem?_cons_zero, List.getElem?_cons_succ, Option.getD_some]
              refine wpL_next hOps rfl rfl ?_
              intro K hK
              refine wp_call _ _ _ rfl Try.func18 rfl (by kernel_rfl) ?_
              simp only [List.map_toArray, List.map_cons, List.map_nil, Act.eval, Array.getD_eq_getD_getElem?, List.getElem?_toArray, List.getElem?_cons_zero, List.getElem?_cons_succ, Option.getD_some]
              refine (rlen_c (H.pull 2 rfl) hS' (by omega) _ hbx0 (by omega)).mono ?_; rintro e w' ⟨rfl, rfl⟩
              have hS := (H)
              refine hK _ _ hS ?_
              clear hK K
              simp only [Act.put, Act.eval, List.setIfInBounds_toArray, List.set_cons_zero, List.set_cons_succ, Array.getD_eq_getD_getElem?, List.getElem?_toArray, List.getElem?_cons_zero, List.getElem?_cons_succ, Option.getD_some]
              refine wpL_take hOps hS (v := ?vOp167) rfl (fun _ _ _ h => h) (yl rfl ?yOp167) ?_
              case yOp167 => (intro w hw; go_simp; first | done | rfl)
              simp only [Act.put, Act.eval, List.setIfInBounds_toArray, List.set_cons_zero, List.set_cons_succ, Array.getD_eq_getD_getElem?, List.getElem?_toArray, List.getElem?_cons_zero, List.getElem?_cons_succ, Option.getD_some]
              refine wpL_end ?_
              clear hOps hS ops
              go_wp2
              go_roundw
              case rel => exact ⟨j + 1, by omega, by go_num, L', I', hM', hS', hI', H.mask [false, true, true]⟩
              case measure => simp [intOf]; omega
        · obtain ⟨L', hL'⟩ : ∃ L', L' = L := ⟨_, rfl⟩
          rw [← hL'] at hM hSm H
          have hM' := hM
          have hS' := hSm
          have hI' : I.length ≤ j + 1 := by omega
          have HB : At w [raw B #[.int .i64 k, .int .u16 bx, .string s, .int .i64 n] 32, mail m L', rmail q z0 I] _ := (((((H).pull 3 rfl).pull 3 rfl).pull 3 rfl).mask [true, true, true])
          clear H
          have H := HB
          clear HB
          refine wpL_begin 8 (At w [raw B #[.int .i64 k, .int .u16 bx, .string s, .int .i64 n] 32, mail m L', rmail q z0 I]) [(0, true), (1, true), (3, true), (4, true), (5, true), (2, false), (6, false), (7, true)] rfl (by kernel_rfl) (by kernel_rfl) ((H.drew)) ?_
          intro ops hOps hS
          replace H := H.drew
          refine wpL_take hOps hS rfl (fun _ _ _ h => h) (yl_move rfl _ rfl) ?_
          simp only [Act.put, Act.eval, List.setIfInBounds_toArray, List.set_cons_zero, List.set_cons_succ, Array.getD_eq_getD_getElem?, List.getElem?_toArray, List.getElem?_cons_zero, List.getElem?_cons_succ, Option.getD_some]
          refine wpL_take hOps hS rfl (fun _ _ _ h => h) (yl_move rfl _ rfl) ?_
          simp only [Act.put, Act.eval, List.setIfInBounds_toArray, List.set_cons_zero, List.set_cons_succ, Array.getD_eq_getD_getElem?, List.getElem?_toArray, List.getElem?_cons_zero, List.getElem?_cons_succ, Option.getD_some]
          refine wpL_take hOps hS rfl (fun _ _ _ h => h) (yl_move rfl _ rfl) ?_
          simp only [Act.put, Act.eval, List.setIfInBounds_toArray, List.set_cons_zero, List.set_cons_succ, Array.getD_eq_getD_getElem?, List.getElem?_toArray, List.getElem?_cons_zero, List.getElem?_cons_succ, Option.getD_some]
          refine wpL_take hOps hS (v := ?vOp181) rfl (fun _ _ _ h => h) (yl rfl ?yOp181) ?_
          case yOp181 => (intro w hw; go_simp; first | done | rfl)
          simp only [Act.put, Act.eval, List.setIfInBounds_toArray, List.set_cons_zero, List.set_cons_succ, Array.getD_eq_getD_getElem?, List.getElem?_toArray, List.getElem?_cons_zero, List.getElem?_cons_succ, Option.getD_some]
          refine wpL_take hOps hS rfl (fun _ _ _ h => h) (yl_get rfl _ _ rfl rfl (by kernel_rfl) (fun w hw => raw_at (hw.heap 0 rfl) rfl)) ?_
          simp only [Act.put, Act.eval, List.setIfInBounds_toArray, List.set_cons_zero, List.set_cons_succ, Array.getD_eq_getD_getElem?, List.getElem?_toArray, List.getElem?_cons_zero, List.getElem?_cons_succ, Option.getD_some]
          refine wpL_next hOps rfl rfl ?_
          intro K hK
          refine wp_call _ _ _ rfl Try.func17 rfl (by kernel_rfl) ?_
          simp only [List.map_toArray, List.map_cons, List.map_nil, Act.eval, Array.getD_eq_getD_getElem?, List.getElem?_toArray, List.getElem?_cons_zero, List.getElem?_cons_succ, Option.getD_some]
          refine (len_c (H.pull 1 rfl) _ hbx0 (by omega)).mono ?_; rintro e w' ⟨rfl, rfl⟩
          have hS := (H)
          refine hK _ _ hS ?_
          clear hK K
          simp only [Act.put, Act.eval, List.setIfInBounds_toArray, List.set_cons_zero, List.set_cons_succ, Array.getD_eq_getD_getElem?, List.getElem?_toArray, List.getElem?_cons_zero, List.getElem?_cons_succ, Option.getD_some]
          refine wpL_next hOps rfl rfl ?_
          intro K hK
          refine wp_call _ _ _ rfl Try.func18 rfl (by kernel_rfl) ?_
          simp only [List.map_toArray, List.map_cons, List.map_nil, Act.eval, Array.getD_eq_getD_getElem?, List.getElem?_toArray, List.getElem?_cons_zero, List.getElem?_cons_succ, Option.getD_some]
          refine (rlen_c (H.pull 2 rfl) hS' (by omega) _ hbx0 (by omega)).mono ?_; rintro e w' ⟨rfl, rfl⟩
          have hS := (H)
          refine hK _ _ hS ?_
          clear hK K
          simp only [Act.put, Act.eval, List.setIfInBounds_toArray, List.set_cons_zero, List.set_cons_succ, Array.getD_eq_getD_getElem?, List.getElem?_toArray, List.getElem?_cons_zero, List.getElem?_cons_succ, Option.getD_some]
          refine wpL_take hOps hS (v := ?vOp193) rfl (fun _ _ _ h => h) (yl rfl ?yOp193) ?_
          case yOp193 => (intro w hw; go_simp; first | done | rfl)
          simp only [Act.put, Act.eval, List.setIfInBounds_toArray, List.set_cons_zero, List.set_cons_succ, Array.getD_eq_getD_getElem?, List.getElem?_toArray, List.getElem?_cons_zero, List.getElem?_cons_succ, Option.getD_some]
          refine wpL_end ?_
          clear hOps hS ops
          go_wp2
          go_roundw
          case rel => exact ⟨j + 1, by omega, by go_num, L', I, hM', hS', hI', H.mask [false, true, true]⟩
          case measure => simp [intOf]; omega
      · go_wp2
        go_ret
        exact ⟨rfl, H.below⟩
    · go_wp2
      go_ret
      exact ⟨rfl, H.below⟩
theorem mailboxPlays_own : ownKnob Try.prog.godebug = none := by kernel_rfl
theorem mailboxPlays_laid : laidOutB Try.prog = true := by kernel_rfl
set_option maxRecDepth 100000 in
theorem mailboxPlays_lifted (os : Os) (started : os.Started) (H : Type) (enc : TypeId × Value → H) :
    ReturnsInHanded {} Try.checked os 3 .any (Rows.mailboxPlaysSpec.pre6 enc Try.prog Try.f3 Rows.mailboxPlaysRow.domain false) (Rows.mailboxPlaysSpec.post enc Try.prog Try.f3 false true false false) := by
  refine returnsInHanded_of_change (C := Try.checked) mailboxPlays_own started (by kernel_rfl) Try.func3
    (ChangeSpec.witness6 (enc := enc) (C := Try.checked) false ⟨#[], #[.int .i64 0, .slice none 0 0], []⟩ 8 (by kernel_rfl) (by kernel_rfl) (by kernel_rfl) (by kernel_rfl)) ?_
  intro W base args ds gs before hval0 hW hcnd _
  have hval : ∀ (j : Nat) t v, Try.f3.params[j]? = some t → args[j]? = some v → Value.okWide Try.prog W .any base t v := hval0
  have hW' := hW
  obtain ⟨p, q, hA0, hV, rfl, hfz, hnd⟩ := hW
  have hA : DataW.TrodAll enc Try.prog W 0 (fun _ => true) true Try.f3.params.toList args.toList ds p := hA0
  rw [Try.params3] at hA hval
  obtain ⟨v0, vs0, d0, ds0, p0, q0, hargs, rfl, rfl, h0, r0⟩ := trodAll_cons hA
  obtain ⟨v1, vs1, d1, ds1, p1, q1, rfl, rfl, rfl, h1, r1⟩ := trodAll_cons r0
  obtain ⟨rfl, rfl, rfl⟩ := trodAll_nil r1
  obtain rfl : args = #[v0, v1] := by cases args; simp_all
  obtain ⟨rfl, rfl⟩ := trodVars_none hV
  have k0 := h0
  have lt0 : ∀ x ∈ p0, x.block < W.heap.size := by obtain ⟨m, hm⟩ := k0; exact DataW.trod_lt m _ _ _ hm
  have k1 := h1
  have lt1 : ∀ x ∈ p1, x.block < W.heap.size := by obtain ⟨m, hm⟩ := k1; exact DataW.trod_lt m _ _ _ hm
  obtain ⟨a0, rfl, rfl, rfl, f0⟩ := open_int Try.underlying3 (hval 0 3 v0 rfl rfl) h0
  obtain ⟨a1_0, a1_1, a1_2, f1, rfl⟩ := open_steps (hval 1 22 v1 rfl rfl) h1
  clear hA0 hval0
  refine (mailboxPlays_walk a0 a1_0 a1_1 a1_2 W f0 f1).mono fun e W' ⟨he, bel⟩ => ?_
  subst he
  exact ⟨_, rfl, _, _, _, [], _, [], hW', trodAll_mk1 (shut_bool Try.underlying4 _), (trodAll_cons_mk (Below.trod mailboxPlays_laid (by kernel_rfl) (of_decide_eq_true (by kernel_rfl)) k0 bel lt0) (trodAll_cons_mk (Below.trod mailboxPlays_laid (by kernel_rfl) (of_decide_eq_true (by kernel_rfl)) k1 bel lt1) trodAll_mk0)), rfl, bel.frame _, fun h => by cases h⟩
theorem mailboxPlays_holds : Rows.MailboxPlaysSaid :=
  OpenClaim.holds_of_wide 3 Try.f3 rfl rfl rfl rfl rfl rfl rfl ⟨rfl, rfl, rfl, rfl, rfl⟩ rfl rfl rfl rfl rfl (by kernel_rfl) Try.func3 (by kernel_rfl)
    (of_decide_eq_true (by kernel_rfl)) (by unfold Func.isWrapper; first | (rw [if_pos (by decide +kernel)]; kernel_rfl) | (rw [if_neg (by decide +kernel)]; exact ⟨rfl, rfl⟩))
    (fun os started H enc _ => mailboxPlays_lifted os started H enc)
#print axioms mailboxPlays_holds
end Go.Proofs.Ytogicnbocefkbaa
