/-
  What comes out of a heap is what the document says: the law answers true for every input, and its arguments read as before.
-/
import Derived.Test.YtkbdpidcdmhhgaaLaw12
import Derived.Test.YtkbdpidcdmhhgaaRef12
namespace Go.Proofs.Ytkbdpidcdmhhgaa
open Go.ChangeShapes Go.WideShapes Go.ChangeAt Go.RowKit Go.Hg
set_option linter.unusedSimpArgs false
set_option linter.unusedVariables false
def TellR (w0 : World) (p q : Nat) (M : Int) (j : Nat) (w : World) : Prop :=
  ∃ T n, RowOK T n ∧ (0 ≤ n ∧ n ≤ j) ∧ T.length ≤ j ∧ At w0 [rheap q M n T, heapI p M n T] w
theorem pushX_le2 (most nx : Int) (L : List Thing) : nx ≤ pushX most nx L ∧ pushX most nx L ≤ nx + 1 := by unfold pushX; split <;> omega
set_option maxRecDepth 10000 in
set_option maxHeartbeats 4000000 in
theorem heapTells_walk (z0 : Int) (a : Option Addr) (len cap : Nat) (w : World) (h0 : (Lit.int .i64 z0).wf = true) (h1 : StepRow w a len) :
    Calls Try.prog 3 #[.int .i64 z0, .slice a len cap] w fun e w' => e = .returned (.bool true) ∧ Below w.heap.size w w' := by
  obtain ⟨hlen, b, off, hcell⟩ := h1
  have H := At.start w
  go_enter Try.func3, Try.ntmps3
  go_wp2_with fail
  refine (shown_c H).mono ?_; rintro e w' ⟨rfl, H⟩
  go_wp2_with fail
  refine (newI_c H z0).mono ?_; rintro e w' ⟨p, rfl, H⟩
  go_wp2_with fail
  refine (rnew_c H z0).mono ?_; rintro e w' ⟨q, rfl, H⟩
  obtain ⟨M, hM⟩ : ∃ M, M = max z0 1 := ⟨_, rfl⟩
  rw [← hM] at H
  clear hM
  go_wp2_with fail
  go_loopw [8] (fun i wr => ∃ j : Nat, j ≤ 300 ∧ i = .int .i64 j ∧ TellR w p q M j wr) (fun i _ => 300 - (intOf i).toNat)
  case atStart => exact ⟨0, by omega, rfl, [], 0, RowOK.nil _, by simp, by simp, H⟩
  case round =>
    clear H
    obtain ⟨j, hj, rfl, T, n, hR, hn, hl, H⟩ := hrel
    by_cases g1 : (j : Int) < len
    · by_cases g2 : (j : Int) < 300
      · obtain ⟨ha, hblt, kd, t, x, hst, _, _⟩ := hcell j (by omega)
        subst ha
        have hst' : wr.rangeAt b (off + j * 3) (stepC kd t x) := fun q v hv => (H.below.cell hblt).trans (hst q v hv)
        clear hcell hst
        by_cases h3 : kd ≤ 2
        · go_wp2_with ((with_reducible refine wpList_op rfl ?_); intro _ hK; first | (refine wp_alloc_sl _ rfl info_Step H (fun B w' (H : At w [raw B _ 30, _, _] w') _ => hK _ _ ?_)) | (refine wp_store_row_sl (cells := (stepC kd t x).toArray) _ _ _ rfl rfl rfl (by kernel_rfl) (by simp [stepC, Value.oneCell']) 0 H rfl rfl fun w' (H : At w [raw B #[.int .i64 kd, .int .u64 t, .int .i64 x] 30, _, _] w') => hK _ _ ?_) | (refine wp_mid 30 _ rfl rfl (stepC kd t x) (by kernel_rfl) (by kernel_rfl) hst' (hK _ _ ?_)) | (refine wp_get _ _ rfl rfl (by kernel_rfl) (raw_at (H.heap 0 rfl) rfl) (hK _ _ ?_)))
          refine (pushI_c (H.pull 2 rfl) hn.1 (by omega) (by omega) _ _).mono ?_; rintro e w' ⟨rfl, H⟩
          go_wp2_with ((with_reducible refine wpList_op rfl ?_); intro _ hK; refine wp_get _ _ rfl rfl (by kernel_rfl) (raw_at (H.heap 1 rfl) rfl) (hK _ _ ?_))
          refine (rpush_c (H.pull 2 rfl) hn.1 (by omega) (by omega) _ _).mono ?_; rintro e w' ⟨rfl, H⟩
          have hp := pushX_le2 M n T
          have hp2 := pushL_le M n T t x
          have hU := hR.pushL (most := M) t x
          obtain ⟨U, hUe⟩ : ∃ U, U = pushL M n T t x := ⟨_, rfl⟩
          obtain ⟨un, hue⟩ : ∃ un, un = pushX M n T := ⟨_, rfl⟩
          rw [← hUe] at H hp2 hU
          rw [← hue] at H hp hU
          clear hUe hue
          by_cases h0 : 0 < U.length
          · have hk := fk_lt h0
            have hd := Lib.hid (decide_eq_true h0)
            have hz := Lib.hid (show firstZ U U.length = (fk U : Int) from firstZ_pos h0)
            have hnt := Lib.hid (show nextT U = (g U (fk U)).1 by unfold nextT; rw [if_pos h0])
            obtain ⟨k, hk2⟩ : ∃ k, k = fk U := ⟨_, rfl⟩
            rw [← hk2] at hk hz hnt
            have Hg := Lib.hid (g_get hk)
            have hk3 : (k : Int) < U.length := by omega
            clear hk2
            go_wp2_with fail
            refine (nextI_c (H.pull 1 rfl) hU).mono ?_; rintro e w' ⟨rfl, rfl⟩
            rw [hd.out, hnt.out]
            obtain ⟨ra, rc, H2⟩ := rheap_open H
            clear H
            go_wp2_with fail
            refine (rfirst_walk H2 (by omega)).mono ?_; rintro e w' ⟨rfl, H⟩
            clear H2
            rw [hz.out]
            obtain ⟨gb, ob, rfl⟩ := lrow_place H 1 rfl h0
            go_wp2_with fail
            refine wpL_begin 41 (At w [raw q #[.int .i64 M, .slice (some ⟨gb, ob, none⟩) U.length rc, .int .u64 un] 41, lrow 43 3 (thC .i64) (.slice (some ⟨gb, ob, none⟩) U.length rc) U, heapI p M un U, raw B #[.int .i64 kd, .int .u64 t, .int .i64 x] 30]) [(0, true), (1, true), (2, true), (3, true), (5, true), (6, true), (7, true), (8, true), (9, true), (4, false), (10, true), (11, true), (12, true), (13, true), (14, true), (15, true), (16, true), (17, true), (18, true), (19, true), (20, true), (21, true), (22, true), (23, true), (24, true), (25, true), (26, true), (27, true), (28, true), (29, true), (30, true), (31, true), (32, true), (33, true), (34, true), (35, true), (36, true), (37, true), (38, true), (39, true), (40, true)] rfl (by kernel_rfl) (by kernel_rfl) ((H.drew)) ?_
            intro ops hOps hS
            replace H := H.drew
            refine wpL_take hOps hS rfl (fun _ _ _ h => h) (yl_move rfl _ rfl) ?_
            simp only [Act.put, Act.eval, List.setIfInBounds_toArray, List.set_cons_zero, List.set_cons_succ, Array.getD_eq_getD_getElem?, List.getElem?_toArray, List.getElem?_cons_zero, List.getElem?_cons_succ, Option.getD_some]
            refine wpL_take hOps hS (v := ?vOp9) rfl (fun _ _ _ h => h) (yl rfl ?yOp9) ?_
            case yOp9 => (intro w hw; go_simp; first | done | rfl)
            simp only [Act.put, Act.eval, List.setIfInBounds_toArray, List.set_cons_zero, List.set_cons_succ, Array.getD_eq_getD_getElem?, List.getElem?_toArray, List.getElem?_cons_zero, List.getElem?_cons_succ, Option.getD_some]
            refine wpL_take hOps hS rfl (fun _ _ _ h => h) (yl_move rfl _ rfl) ?_
            simp only [Act.put, Act.eval, List.setIfInBounds_toArray, List.set_cons_zero, List.set_cons_succ, Array.getD_eq_getD_getElem?, List.getElem?_toArray, List.getElem?_cons_zero, List.getElem?_cons_succ, Option.getD_some]
            refine wpL_take hOps hS rfl (fun _ _ _ h => h) (yl_move rfl _ rfl) ?_
            simp only [Act.put, Act.eval, List.setIfInBounds_toArray, List.set_cons_zero, List.set_cons_succ, Array.getD_eq_getD_getElem?, List.getElem?_toArray, List.getElem?_cons_zero, List.getElem?_cons_succ, Option.getD_some]
            refine wpL_take hOps hS rfl (fun _ _ _ h => h) (yl_move rfl _ rfl) ?_
            simp only [Act.put, Act.eval, List.setIfInBounds_toArray, List.set_cons_zero, List.set_cons_succ, Array.getD_eq_getD_getElem?, List.getElem?_toArray, List.getElem?_cons_zero, List.getElem?_cons_succ, Option.getD_some]
            refine wpL_take hOps hS rfl (fun _ _ _ h => h) (yl_nil rfl _ rfl _ rfl) ?_
            simp only [Act.put, Act.eval, List.setIfInBounds_toArray, List.set_cons_zero, List.set_cons_succ, Array.getD_eq_getD_getElem?, List.getElem?_toArray, List.getElem?_cons_zero, List.getElem?_cons_succ, Option.getD_some]
            refine wpL_take hOps hS (v := ?vOp23) rfl (fun _ _ _ h => h) (yl rfl ?yOp23) ?_
            case yOp23 => (intro w hw; go_simp; first | done | rfl)
            simp only [Act.put, Act.eval, List.setIfInBounds_toArray, List.set_cons_zero, List.set_cons_succ, Array.getD_eq_getD_getElem?, List.getElem?_toArray, List.getElem?_cons_zero, List.getElem?_cons_succ, Option.getD_some]
            refine wpL_take hOps hS rfl (fun _ _ _ h => h) (yl_get rfl _ _ rfl rfl (by kernel_rfl) (fun w hw => raw_at (At.heap hw 0 rfl) rfl)) ?_
            simp only [Act.put, Act.eval, List.setIfInBounds_toArray, List.set_cons_zero, List.set_cons_succ, Array.getD_eq_getD_getElem?, List.getElem?_toArray, List.getElem?_cons_zero, List.getElem?_cons_succ, Option.getD_some]
            refine wpL_take hOps hS (v := ?vOp27) rfl (fun _ _ _ h => h) (yl rfl ?yOp27) ?_
            case yOp27 => (intro w hw; go_simp; first | done | rfl)
            simp only [Act.put, Act.eval, List.setIfInBounds_toArray, List.set_cons_zero, List.set_cons_succ, Array.getD_eq_getD_getElem?, List.getElem?_toArray, List.getElem?_cons_zero, List.getElem?_cons_succ, Option.getD_some]
            refine wpL_next hOps rfl rfl ?_
            intro K hK
            refine wp_call _ _ _ rfl Try.func18 rfl (by kernel_rfl) ?_
            simp only [List.map_toArray, List.map_cons, List.map_nil, Act.eval, Array.getD_eq_getD_getElem?, List.getElem?_toArray, List.getElem?_cons_zero, List.getElem?_cons_succ, Option.getD_some]
            refine (lenI_c (H.pull 2 rfl)).mono ?_; rintro e w' ⟨rfl, rfl⟩
            have hS := (H)
            refine hK _ _ hS ?_
            clear hK K
            simp only [Act.put, Act.eval, List.setIfInBounds_toArray, List.set_cons_zero, List.set_cons_succ, Array.getD_eq_getD_getElem?, List.getElem?_toArray, List.getElem?_cons_zero, List.getElem?_cons_succ, Option.getD_some]
            refine wpL_take hOps hS (v := ?vOp33) rfl (fun _ _ _ h => h) (yl rfl ?yOp33) ?_
            case yOp33 => (intro w hw; go_simp; first | done | rfl)
            simp only [Act.put, Act.eval, List.setIfInBounds_toArray, List.set_cons_zero, List.set_cons_succ, Array.getD_eq_getD_getElem?, List.getElem?_toArray, List.getElem?_cons_zero, List.getElem?_cons_succ, Option.getD_some]
            refine wpL_take hOps hS (v := ?vOp35) rfl (fun _ _ _ h => h) (yl rfl ?yOp35) ?_
            case yOp35 => (intro w hw; go_simp; first | done | rfl)
            simp only [Act.put, Act.eval, List.setIfInBounds_toArray, List.set_cons_zero, List.set_cons_succ, Array.getD_eq_getD_getElem?, List.getElem?_toArray, List.getElem?_cons_zero, List.getElem?_cons_succ, Option.getD_some]
            refine wpL_take hOps hS rfl (fun _ _ _ h => h) (yl_move rfl _ rfl) ?_
            simp only [Act.put, Act.eval, List.setIfInBounds_toArray, List.set_cons_zero, List.set_cons_succ, Array.getD_eq_getD_getElem?, List.getElem?_toArray, List.getElem?_cons_zero, List.getElem?_cons_succ, Option.getD_some]
            refine wpL_take hOps hS rfl (fun _ _ _ h => h) (yl_move rfl _ rfl) ?_
            simp only [Act.put, Act.eval, List.setIfInBounds_toArray, List.set_cons_zero, List.set_cons_succ, Array.getD_eq_getD_getElem?, List.getElem?_toArray, List.getElem?_cons_zero, List.getElem?_cons_succ, Option.getD_some]
            refine wpL_take hOps hS rfl (fun _ _ _ h => h) (yl_move rfl _ rfl) ?_
            simp only [Act.put, Act.eval, List.setIfInBounds_toArray, List.set_cons_zero, List.set_cons_succ, Array.getD_eq_getD_getElem?, List.getElem?_toArray, List.getElem?_cons_zero, List.getElem?_cons_succ, Option.getD_some]
            refine wpL_take hOps hS (v := ?vOp46) rfl (fun _ _ _ h => h) (yl rfl ?yOp46) ?_
            case yOp46 => (intro w hw; go_simp; first | done | rfl)
            simp only [Act.put, Act.eval, List.setIfInBounds_toArray, List.set_cons_zero, List.set_cons_succ, Array.getD_eq_getD_getElem?, List.getElem?_toArray, List.getElem?_cons_zero, List.getElem?_cons_succ, Option.getD_some]
            refine wpL_take hOps hS (v := ?vOp48) rfl (fun _ _ _ h => h) (yl rfl ?yOp48) ?_
            case yOp48 => (intro w hw; go_simp; first | done | rfl)
            simp only [Act.put, Act.eval, List.setIfInBounds_toArray, List.set_cons_zero, List.set_cons_succ, Array.getD_eq_getD_getElem?, List.getElem?_toArray, List.getElem?_cons_zero, List.getElem?_cons_succ, Option.getD_some]
            refine wpL_take hOps hS (v := ?vOp50) rfl (fun _ _ _ h => h) (yl rfl ?yOp50) ?_
            case yOp50 => (intro w hw; go_simp; first | done | rfl)
            simp only [Act.put, Act.eval, List.setIfInBounds_toArray, List.set_cons_zero, List.set_cons_succ, Array.getD_eq_getD_getElem?, List.getElem?_toArray, List.getElem?_cons_zero, List.getElem?_cons_succ, Option.getD_some]
            refine wpL_take hOps hS rfl (fun _ _ _ h => h) (yl_move rfl _ rfl) ?_
            simp only [Act.put, Act.eval, List.setIfInBounds_toArray, List.set_cons_zero, List.set_cons_succ, Array.getD_eq_getD_getElem?, List.getElem?_toArray, List.getElem?_cons_zero, List.getElem?_cons_succ, Option.getD_some]
            refine wpL_take hOps hS rfl (fun _ _ _ h => h) (yl_move rfl _ rfl) ?_
            simp only [Act.put, Act.eval, List.setIfInBounds_toArray, List.set_cons_zero, List.set_cons_succ, Array.getD_eq_getD_getElem?, List.getElem?_toArray, List.getElem?_cons_zero, List.getElem?_cons_succ, Option.getD_some]
            refine wpL_take hOps hS rfl (fun _ _ _ h => h) (yl_move rfl _ rfl) ?_
            simp only [Act.put, Act.eval, List.setIfInBounds_toArray, List.set_cons_zero, List.set_cons_succ, Array.getD_eq_getD_getElem?, List.getElem?_toArray, List.getElem?_cons_zero, List.getElem?_cons_succ, Option.getD_some]
            refine wpL_take hOps hS rfl (fun _ _ _ h => h) (yl_move rfl _ rfl) ?_
            simp only [Act.put, Act.eval, List.setIfInBounds_toArray, List.set_cons_zero, List.set_cons_succ, Array.getD_eq_getD_getElem?, List.getElem?_toArray, List.getElem?_cons_zero, List.getElem?_cons_succ, Option.getD_some]
            refine wpL_take hOps hS rfl (fun _ _ _ h => h) (yl_move rfl _ rfl) ?_
            simp only [Act.put, Act.eval, List.setIfInBounds_toArray, List.set_cons_zero, List.set_cons_succ, Array.getD_eq_getD_getElem?, List.getElem?_toArray, List.getElem?_cons_zero, List.getElem?_cons_succ, Option.getD_some]
            refine wpL_take hOps hS rfl (fun _ _ _ h => h) (yl_nil rfl _ rfl _ rfl) ?_
            simp only [Act.put, Act.eval, List.setIfInBounds_toArray, List.set_cons_zero, List.set_cons_succ, Array.getD_eq_getD_getElem?, List.getElem?_toArray, List.getElem?_cons_zero, List.getElem?_cons_succ, Option.getD_some]
            refine wpL_take hOps hS (v := ?vOp70) rfl (fun _ _ _ h => h) (yl rfl ?yOp70) ?_
            case yOp70 => (intro w hw; go_simp; first | done | rfl)
            simp only [Act.put, Act.eval, List.setIfInBounds_toArray, List.set_cons_zero, List.set_cons_succ, Array.getD_eq_getD_getElem?, List.getElem?_toArray, List.getElem?_cons_zero, List.getElem?_cons_succ, Option.getD_some]
            refine wpL_take hOps hS rfl (fun _ _ _ h => h) (yl_get rfl _ _ rfl rfl (by kernel_rfl) (fun w hw => raw_at (At.heap hw 0 rfl) rfl)) ?_
            simp only [Act.put, Act.eval, List.setIfInBounds_toArray, List.set_cons_zero, List.set_cons_succ, Array.getD_eq_getD_getElem?, List.getElem?_toArray, List.getElem?_cons_zero, List.getElem?_cons_succ, Option.getD_some]
            refine wpL_take hOps hS rfl (fun _ _ _ h => h) (yl_move rfl _ rfl) ?_
            simp only [Act.put, Act.eval, List.setIfInBounds_toArray, List.set_cons_zero, List.set_cons_succ, Array.getD_eq_getD_getElem?, List.getElem?_toArray, List.getElem?_cons_zero, List.getElem?_cons_succ, Option.getD_some]
            refine wpL_take hOps hS (v := ?vOp77) rfl (fun _ _ _ h => h) (yl rfl ?yOp77) ?_
            case yOp77 => (intro w hw; go_simp; first | done | rfl)
            simp only [Act.put, Act.eval, List.setIfInBounds_toArray, List.set_cons_zero, List.set_cons_succ, Array.getD_eq_getD_getElem?, List.getElem?_toArray, List.getElem?_cons_zero, List.getElem?_cons_succ, Option.getD_some]
            refine wpL_take hOps hS (v := ?vOp79) rfl (fun _ _ _ h => h) (yl rfl ?yOp79) ?_
            case yOp79 => (intro w hw; go_simp; first | done | rfl)
            simp only [Act.put, Act.eval, List.setIfInBounds_toArray, List.set_cons_zero, List.set_cons_succ, Array.getD_eq_getD_getElem?, List.getElem?_toArray, List.getElem?_cons_zero, List.getElem?_cons_succ, Option.getD_some]
            refine wpL_take hOps hS rfl (fun _ _ _ h => h) (yl_get rfl _ _ rfl rfl (by kernel_rfl) (fun w hw => lrow_cell el_rt (j := 0) hw 1 rfl Hg.out rfl)) ?_
            simp only [Act.put, Act.eval, List.setIfInBounds_toArray, List.set_cons_zero, List.set_cons_succ, Array.getD_eq_getD_getElem?, List.getElem?_toArray, List.getElem?_cons_zero, List.getElem?_cons_succ, Option.getD_some]
            refine wpL_take hOps hS (v := ?vOp83) rfl (fun _ _ _ h => h) (yl rfl ?yOp83) ?_
            case yOp83 => (intro w hw; go_simp; first | done | rfl)
            simp only [Act.put, Act.eval, List.setIfInBounds_toArray, List.set_cons_zero, List.set_cons_succ, Array.getD_eq_getD_getElem?, List.getElem?_toArray, List.getElem?_cons_zero, List.getElem?_cons_succ, Option.getD_some]
            refine wpL_take hOps hS (v := ?vOp86) rfl (fun _ _ _ h => h) (yl rfl ?yOp86) ?_
            case yOp86 => (intro w hw; go_simp; first | done | rfl)
            simp only [Act.put, Act.eval, List.setIfInBounds_toArray, List.set_cons_zero, List.set_cons_succ, Array.getD_eq_getD_getElem?, List.getElem?_toArray, List.getElem?_cons_zero, List.getElem?_cons_succ, Option.getD_some]
            refine wpL_take hOps hS (v := ?vOp88) rfl (fun _ _ _ h => h) (yl rfl ?yOp88) ?_
            case yOp88 => (intro w hw; go_simp; first | done | rfl)
            simp only [Act.put, Act.eval, List.setIfInBounds_toArray, List.set_cons_zero, List.set_cons_succ, Array.getD_eq_getD_getElem?, List.getElem?_toArray, List.getElem?_cons_zero, List.getElem?_cons_succ, Option.getD_some]
            refine wpL_take hOps hS rfl (fun _ _ _ h => h) (yl_move rfl _ rfl) ?_
            simp only [Act.put, Act.eval, List.setIfInBounds_toArray, List.set_cons_zero, List.set_cons_succ, Array.getD_eq_getD_getElem?, List.getElem?_toArray, List.getElem?_cons_zero, List.getElem?_cons_succ, Option.getD_some]
            refine wpL_take hOps hS rfl (fun _ _ _ h => h) (yl_move rfl _ rfl) ?_
            simp only [Act.put, Act.eval, List.setIfInBounds_toArray, List.set_cons_zero, List.set_cons_succ, Array.getD_eq_getD_getElem?, List.getElem?_toArray, List.getElem?_cons_zero, List.getElem?_cons_succ, Option.getD_some]
            refine wpL_take hOps hS (v := ?vOp96) rfl (fun _ _ _ h => h) (yl rfl ?yOp96) ?_
            case yOp96 => (intro w hw; go_simp; first | done | rfl)
            simp only [Act.put, Act.eval, List.setIfInBounds_toArray, List.set_cons_zero, List.set_cons_succ, Array.getD_eq_getD_getElem?, List.getElem?_toArray, List.getElem?_cons_zero, List.getElem?_cons_succ, Option.getD_some]
            refine wpL_take hOps hS rfl (fun _ _ _ h => h) (yl_move rfl _ rfl) ?_
            simp only [Act.put, Act.eval, List.setIfInBounds_toArray, List.set_cons_zero, List.set_cons_succ, Array.getD_eq_getD_getElem?, List.getElem?_toArray, List.getElem?_cons_zero, List.getElem?_cons_succ, Option.getD_some]
            refine wpL_take hOps hS rfl (fun _ _ _ h => h) (yn rfl) ?_
            simp only [Act.put, Act.eval, List.setIfInBounds_toArray, List.set_cons_zero, List.set_cons_succ, Array.getD_eq_getD_getElem?, List.getElem?_toArray, List.getElem?_cons_zero, List.getElem?_cons_succ, Option.getD_some]
            refine wpL_take hOps hS rfl (fun _ _ _ h => h) (yn rfl) ?_
            simp only [Act.put, Act.eval, List.setIfInBounds_toArray, List.set_cons_zero, List.set_cons_succ, Array.getD_eq_getD_getElem?, List.getElem?_toArray, List.getElem?_cons_zero, List.getElem?_cons_succ, Option.getD_some]
            refine wpL_take hOps hS (v := ?vOp106) rfl (fun _ _ _ h => h) (yl rfl ?yOp106) ?_
            case yOp106 => (intro w hw; go_simp; first | done | rfl)
            simp only [Act.put, Act.eval, List.setIfInBounds_toArray, List.set_cons_zero, List.set_cons_succ, Array.getD_eq_getD_getElem?, List.getElem?_toArray, List.getElem?_cons_zero, List.getElem?_cons_succ, Option.getD_some]
            refine wpL_take hOps hS (v := ?vOp108) rfl (fun _ _ _ h => h) (yl rfl ?yOp108) ?_
            case yOp108 => (intro w hw; go_simp; first | done | rfl)
            simp only [Act.put, Act.eval, List.setIfInBounds_toArray, List.set_cons_zero, List.set_cons_succ, Array.getD_eq_getD_getElem?, List.getElem?_toArray, List.getElem?_cons_zero, List.getElem?_cons_succ, Option.getD_some]
            refine wpL_end ?_
            clear hOps hS ops
            go_wp2
            go_roundw
            case rel => exact ⟨j + 1, by omega, by go_num, U, un, hU, by omega, by omega, rheap_shut (H.mask [true, true, true])⟩
            case measure => simp [intOf]; omega
          · have hd := Lib.hid (decide_eq_false h0)
            have hz := Lib.hid (show firstZ U U.length = -1 from by unfold firstZ; rw [if_pos (by omega)])
            have hnt := Lib.hid (show nextT U = 0 by unfold nextT; rw [if_neg h0])
            go_wp2_with fail
            refine (nextI_c (H.pull 1 rfl) hU).mono ?_; rintro e w' ⟨rfl, rfl⟩
            rw [hd.out, hnt.out]
            obtain ⟨ra, rc, H2⟩ := rheap_open H
            clear H
            go_wp2_with fail
            refine (rfirst_walk H2 (by omega)).mono ?_; rintro e w' ⟨rfl, H⟩
            clear H2
            rw [hz.out]
            go_wp2_with fail
            refine wpL_begin 41 (At w [raw q #[.int .i64 M, .slice ra U.length rc, .int .u64 un] 41, lrow 43 3 (thC .i64) (.slice ra U.length rc) U, heapI p M un U, raw B #[.int .i64 kd, .int .u64 t, .int .i64 x] 30]) [(0, true), (1, true), (2, true), (3, true), (5, true), (6, true), (7, true), (8, true), (9, true), (4, false), (10, true), (11, true), (12, true), (13, true), (14, true), (15, true), (16, true), (17, true), (18, true), (19, true), (20, true), (21, true), (22, true), (23, true), (24, true), (25, true), (26, true), (27, true), (28, true), (29, true), (30, true), (31, true), (32, true), (33, true), (34, true), (35, true), (36, true), (37, true), (38, true), (39, true), (40, true)] rfl (by kernel_rfl) (by kernel_rfl) ((H.drew)) ?_
            intro ops hOps hS
            replace H := H.drew
            refine wpL_take hOps hS rfl (fun _ _ _ h => h) (yl_move rfl _ rfl) ?_
            simp only [Act.put, Act.eval, List.setIfInBounds_toArray, List.set_cons_zero, List.set_cons_succ, Array.getD_eq_getD_getElem?, List.getElem?_toArray, List.getElem?_cons_zero, List.getElem?_cons_succ, Option.getD_some]
            refine wpL_take hOps hS (v := ?vOp116) rfl (fun _ _ _ h => h) (yl rfl ?yOp116) ?_
            case yOp116 => (intro w hw; go_simp; first | done | rfl)
            simp only [Act.put, Act.eval, List.setIfInBounds_toArray, List.set_cons_zero, List.set_cons_succ, Array.getD_eq_getD_getElem?, List.getElem?_toArray, List.getElem?_cons_zero, List.getElem?_cons_succ, Option.getD_some]
            refine wpL_take hOps hS rfl (fun _ _ _ h => h) (yl_move rfl _ rfl) ?_
            simp only [Act.put, Act.eval, List.setIfInBounds_toArray, List.set_cons_zero, List.set_cons_succ, Array.getD_eq_getD_getElem?, List.getElem?_toArray, List.getElem?_cons_zero, List.getElem?_cons_succ, Option.getD_some]
            refine wpL_take hOps hS rfl (fun _ _ _ h => h) (yl_move rfl _ rfl) ?_
            simp only [Act.put, Act.eval, List.setIfInBounds_toArray, List.set_cons_zero, List.set_cons_succ, Array.getD_eq_getD_getElem?, List.getElem?_toArray, List.getElem?_cons_zero, List.getElem?_cons_succ, Option.getD_some]
            refine wpL_take hOps hS rfl (fun _ _ _ h => h) (yl_move rfl _ rfl) ?_
            simp only [Act.put, Act.eval, List.setIfInBounds_toArray, List.set_cons_zero, List.set_cons_succ, Array.getD_eq_getD_getElem?, List.getElem?_toArray, List.getElem?_cons_zero, List.getElem?_cons_succ, Option.getD_some]
            refine wpL_take hOps hS rfl (fun _ _ _ h => h) (yl_nil rfl _ rfl _ rfl) ?_
            simp only [Act.put, Act.eval, List.setIfInBounds_toArray, List.set_cons_zero, List.set_cons_succ, Array.getD_eq_getD_getElem?, List.getElem?_toArray, List.getElem?_cons_zero, List.getElem?_cons_succ, Option.getD_some]
            refine wpL_take hOps hS (v := ?vOp130) rfl (fun _ _ _ h => h) (yl rfl ?yOp130) ?_
            case yOp130 => (intro w hw; go_simp; first | done | rfl)
            simp only [Act.put, Act.eval, List.setIfInBounds_toArray, List.set_cons_zero, List.set_cons_succ, Array.getD_eq_getD_getElem?, List.getElem?_toArray, List.getElem?_cons_zero, List.getElem?_cons_succ, Option.getD_some]
            refine wpL_take hOps hS rfl (fun _ _ _ h => h) (yl_get rfl _ _ rfl rfl (by kernel_rfl) (fun w hw => raw_at (At.heap hw 0 rfl) rfl)) ?_
            simp only [Act.put, Act.eval, List.setIfInBounds_toArray, List.set_cons_zero, List.set_cons_succ, Array.getD_eq_getD_getElem?, List.getElem?_toArray, List.getElem?_cons_zero, List.getElem?_cons_succ, Option.getD_some]
            refine wpL_take hOps hS (v := ?vOp134) rfl (fun _ _ _ h => h) (yl rfl ?yOp134) ?_
            case yOp134 => (intro w hw; go_simp; first | done | rfl)
            simp only [Act.put, Act.eval, List.setIfInBounds_toArray, List.set_cons_zero, List.set_cons_succ, Array.getD_eq_getD_getElem?, List.getElem?_toArray, List.getElem?_cons_zero, List.getElem?_cons_succ, Option.getD_some]
            refine wpL_next hOps rfl rfl ?_
            intro K hK
            refine wp_call _ _ _ rfl Try.func18 rfl (by kernel_rfl) ?_
            simp only [List.map_toArray, List.map_cons, List.map_nil, Act.eval, Array.getD_eq_getD_getElem?, List.getElem?_toArray, List.getElem?_cons_zero, List.getElem?_cons_succ, Option.getD_some]
            refine (lenI_c (H.pull 2 rfl)).mono ?_; rintro e w' ⟨rfl, rfl⟩
            have hS := (H)
            refine hK _ _ hS ?_
            clear hK K
            simp only [Act.put, Act.eval, List.setIfInBounds_toArray, List.set_cons_zero, List.set_cons_succ, Array.getD_eq_getD_getElem?, List.getElem?_toArray, List.getElem?_cons_zero, List.getElem?_cons_succ, Option.getD_some]
            refine wpL_take hOps hS (v := ?vOp140) rfl (fun _ _ _ h => h) (yl rfl ?yOp140) ?_
            case yOp140 => (intro w hw; go_simp; first | done | rfl)
            simp only [Act.put, Act.eval, List.setIfInBounds_toArray, List.set_cons_zero, List.set_cons_succ, Array.getD_eq_getD_getElem?, List.getElem?_toArray, List.getElem?_cons_zero, List.getElem?_cons_succ, Option.getD_some]
            refine wpL_take hOps hS (v := ?vOp142) rfl (fun _ _ _ h => h) (yl rfl ?yOp142) ?_
            case yOp142 => (intro w hw; go_simp; first | done | rfl)
            simp only [Act.put, Act.eval, List.setIfInBounds_toArray, List.set_cons_zero, List.set_cons_succ, Array.getD_eq_getD_getElem?, List.getElem?_toArray, List.getElem?_cons_zero, List.getElem?_cons_succ, Option.getD_some]
            refine wpL_take hOps hS rfl (fun _ _ _ h => h) (yl_move rfl _ rfl) ?_
            simp only [Act.put, Act.eval, List.setIfInBounds_toArray, List.set_cons_zero, List.set_cons_succ, Array.getD_eq_getD_getElem?, List.getElem?_toArray, List.getElem?_cons_zero, List.getElem?_cons_succ, Option.getD_some]
            refine wpL_take hOps hS rfl (fun _ _ _ h => h) (yl_move rfl _ rfl) ?_
            simp only [Act.put, Act.eval, List.setIfInBounds_toArray, List.set_cons_zero, List.set_cons_succ, Array.getD_eq_getD_getElem?, List.getElem?_toArray, List.getElem?_cons_zero, List.getElem?_cons_succ, Option.getD_some]
            refine wpL_take hOps hS rfl (fun _ _ _ h => h) (yl_move rfl _ rfl) ?_
            simp only [Act.put, Act.eval, List.setIfInBounds_toArray, List.set_cons_zero, List.set_cons_succ, Array.getD_eq_getD_getElem?, List.getElem?_toArray, List.getElem?_cons_zero, List.getElem?_cons_succ, Option.getD_some]
            refine wpL_take hOps hS (v := ?vOp153) rfl (fun _ _ _ h => h) (yl rfl ?yOp153) ?_
            case yOp153 => (intro w hw; go_simp; first | done | rfl)
            simp only [Act.put, Act.eval, List.setIfInBounds_toArray, List.set_cons_zero, List.set_cons_succ, Array.getD_eq_getD_getElem?, List.getElem?_toArray, List.getElem?_cons_zero, List.getElem?_cons_succ, Option.getD_some]
            refine wpL_take hOps hS (v := ?vOp155) rfl (fun _ _ _ h => h) (yl rfl ?yOp155) ?_
            case yOp155 => (intro w hw; go_simp; first | done | rfl)
            simp only [Act.put, Act.eval, List.setIfInBounds_toArray, List.set_cons_zero, List.set_cons_succ, Array.getD_eq_getD_getElem?, List.getElem?_toArray, List.getElem?_cons_zero, List.getElem?_cons_succ, Option.getD_some]
            refine wpL_take hOps hS (v := ?vOp157) rfl (fun _ _ _ h => h) (yl rfl ?yOp157) ?_
            case yOp157 => (intro w hw; go_simp; first | done | rfl)
            simp only [Act.put, Act.eval, List.setIfInBounds_toArray, List.set_cons_zero, List.set_cons_succ, Array.getD_eq_getD_getElem?, List.getElem?_toArray, List.getElem?_cons_zero, List.getElem?_cons_succ, Option.getD_some]
            refine wpL_take hOps hS rfl (fun _ _ _ h => h) (yl_move rfl _ rfl) ?_
            simp only [Act.put, Act.eval, List.setIfInBounds_toArray, List.set_cons_zero, List.set_cons_succ, Array.getD_eq_getD_getElem?, List.getElem?_toArray, List.getElem?_cons_zero, List.getElem?_cons_succ, Option.getD_some]
            refine wpL_take hOps hS rfl (fun _ _ _ h => h) (yl_move rfl _ rfl) ?_
            simp only [Act.put, Act.eval, List.setIfInBounds_toArray, List.set_cons_zero, List.set_cons_succ, Array.getD_eq_getD_getElem?, List.getElem?_toArray, List.getElem?_cons_zero, List.getElem?_cons_succ, Option.getD_some]
            refine wpL_take hOps hS rfl (fun _ _ _ h => h) (yl_move rfl _ rfl) ?_
            simp only [Act.put, Act.eval, List.setIfInBounds_toArray, List.set_cons_zero, List.set_cons_succ, Array.getD_eq_getD_getElem?, List.getElem?_toArray, List.getElem?_cons_zero, List.getElem?_cons_succ, Option.getD_some]
            refine wpL_take hOps hS rfl (fun _ _ _ h => h) (yn rfl) ?_
            simp only [Act.put, Act.eval, List.setIfInBounds_toArray, List.set_cons_zero, List.set_cons_succ, Array.getD_eq_getD_getElem?, List.getElem?_toArray, List.getElem?_cons_zero, List.getElem?_cons_succ, Option.getD_some]
            refine wpL_take hOps hS rfl (fun _ _ _ h => h) (yn rfl) ?_
            simp only [Act.put, Act.eval, List.setIfInBounds_toArray, List.set_cons_zero, List.set_cons_succ, Array.getD_eq_getD_getElem?, List.getElem?_toArray, List.getElem?_cons_zero, List.getElem?_cons_succ, Option.getD_some]
            refine wpL_take hOps hS rfl (fun _ _ _ h => h) (yn rfl) ?_
            simp only [Act.put, Act.eval, List.setIfInBounds_toArray, List.set_cons_zero, List.set_cons_succ, Array.getD_eq_getD_getElem?, List.getElem?_toArray, List.getElem?_cons_zero, List.getElem?_cons_succ, Option.getD_some]
            refine wpL_take hOps hS rfl (fun _ _ _ h => h) (yn rfl) ?_
            simp only [Act.put, Act.eval, List.setIfInBounds_toArray, List.set_cons_zero, List.set_cons_succ, Array.getD_eq_getD_getElem?, List.getElem?_toArray, List.getElem?_cons_zero, List.getElem?_cons_succ, Option.getD_some]
            refine wpL_take hOps hS rfl (fun _ _ _ h => h) (yn rfl) ?_
            simp only [Act.put, Act.eval, List.setIfInBounds_toArray, List.set_cons_zero, List.set_cons_succ, Array.getD_eq_getD_getElem?, List.getElem?_toArray, List.getElem?_cons_zero, List.getElem?_cons_succ, Option.getD_some]
            refine wpL_take hOps hS rfl (fun _ _ _ h => h) (yn rfl) ?_
            simp only [Act.put, Act.eval, List.setIfInBounds_toArray, List.set_cons_zero, List.set_cons_succ, Array.getD_eq_getD_getElem?, List.getElem?_toArray, List.getElem?_cons_zero, List.getElem?_cons_succ, Option.getD_some]
            refine wpL_take hOps hS rfl (fun _ _ _ h => h) (yn rfl) ?_
            simp only [Act.put, Act.eval, List.setIfInBounds_toArray, List.set_cons_zero, List.set_cons_succ, Array.getD_eq_getD_getElem?, List.getElem?_toArray, List.getElem?_cons_zero, List.getElem?_cons_succ, Option.getD_some]
            refine wpL_take hOps hS rfl (fun _ _ _ h => h) (yn rfl) ?_
            simp only [Act.put, Act.eval, List.setIfInBounds_toArray, List.set_cons_zero, List.set_cons_succ, Array.getD_eq_getD_getElem?, List.getElem?_toArray, List.getElem?_cons_zero, List.getElem?_cons_succ, Option.getD_some]
            refine wpL_take hOps hS rfl (fun _ _ _ h => h) (yn rfl) ?_
            simp only [Act.put, Act.eval, List.setIfInBounds_toArray, List.set_cons_zero, List.set_cons_succ, Array.getD_eq_getD_getElem?, List.getElem?_toArray, List.getElem?_cons_zero, List.getElem?_cons_succ, Option.getD_some]
            refine wpL_take hOps hS rfl (fun _ _ _ h => h) (yn rfl) ?_
            simp only [Act.put, Act.eval, List.setIfInBounds_toArray, List.set_cons_zero, List.set_cons_succ, Array.getD_eq_getD_getElem?, List.getElem?_toArray, List.getElem?_cons_zero, List.getElem?_cons_succ, Option.getD_some]
            refine wpL_take hOps hS (v := ?vOp189) rfl (fun _ _ _ h => h) (yl rfl ?yOp189) ?_
            case yOp189 => (intro w hw; go_simp; first | done | rfl)
            simp only [Act.put, Act.eval, List.setIfInBounds_toArray, List.set_cons_zero, List.set_cons_succ, Array.getD_eq_getD_getElem?, List.getElem?_toArray, List.getElem?_cons_zero, List.getElem?_cons_succ, Option.getD_some]
            refine wpL_take hOps hS (v := ?vOp191) rfl (fun _ _ _ h => h) (yl rfl ?yOp191) ?_
            case yOp191 => (intro w hw; go_simp; first | done | rfl)
            simp only [Act.put, Act.eval, List.setIfInBounds_toArray, List.set_cons_zero, List.set_cons_succ, Array.getD_eq_getD_getElem?, List.getElem?_toArray, List.getElem?_cons_zero, List.getElem?_cons_succ, Option.getD_some]
            refine wpL_take hOps hS rfl (fun _ _ _ h => h) (yl_move rfl _ rfl) ?_
            simp only [Act.put, Act.eval, List.setIfInBounds_toArray, List.set_cons_zero, List.set_cons_succ, Array.getD_eq_getD_getElem?, List.getElem?_toArray, List.getElem?_cons_zero, List.getElem?_cons_succ, Option.getD_some]
            refine wpL_take hOps hS rfl (fun _ _ _ h => h) (yl_move rfl _ rfl) ?_
            simp only [Act.put, Act.eval, List.setIfInBounds_toArray, List.set_cons_zero, List.set_cons_succ, Array.getD_eq_getD_getElem?, List.getElem?_toArray, List.getElem?_cons_zero, List.getElem?_cons_succ, Option.getD_some]
            refine wpL_take hOps hS (v := ?vOp199) rfl (fun _ _ _ h => h) (yl rfl ?yOp199) ?_
            case yOp199 => (intro w hw; go_simp; first | done | rfl)
            simp only [Act.put, Act.eval, List.setIfInBounds_toArray, List.set_cons_zero, List.set_cons_succ, Array.getD_eq_getD_getElem?, List.getElem?_toArray, List.getElem?_cons_zero, List.getElem?_cons_succ, Option.getD_some]
            refine wpL_take hOps hS rfl (fun _ _ _ h => h) (yl_move rfl _ rfl) ?_
            simp only [Act.put, Act.eval, List.setIfInBounds_toArray, List.set_cons_zero, List.set_cons_succ, Array.getD_eq_getD_getElem?, List.getElem?_toArray, List.getElem?_cons_zero, List.getElem?_cons_succ, Option.getD_some]
            refine wpL_take hOps hS rfl (fun _ _ _ h => h) (yl_move rfl _ rfl) ?_
            simp only [Act.put, Act.eval, List.setIfInBounds_toArray, List.set_cons_zero, List.set_cons_succ, Array.getD_eq_getD_getElem?, List.getElem?_toArray, List.getElem?_cons_zero, List.getElem?_cons_succ, Option.getD_some]
            refine wpL_take hOps hS (v := ?vOp207) rfl (fun _ _ _ h => h) (yl rfl ?yOp207) ?_
            case yOp207 => (intro w hw; go_simp; first | done | rfl)
            simp only [Act.put, Act.eval, List.setIfInBounds_toArray, List.set_cons_zero, List.set_cons_succ, Array.getD_eq_getD_getElem?, List.getElem?_toArray, List.getElem?_cons_zero, List.getElem?_cons_succ, Option.getD_some]
            refine wpL_take hOps hS (v := ?vOp210) rfl (fun _ _ _ h => h) (yl rfl ?yOp210) ?_
            case yOp210 => (intro w hw; go_simp; first | done | rfl)
            simp only [Act.put, Act.eval, List.setIfInBounds_toArray, List.set_cons_zero, List.set_cons_succ, Array.getD_eq_getD_getElem?, List.getElem?_toArray, List.getElem?_cons_zero, List.getElem?_cons_succ, Option.getD_some]
            refine wpL_take hOps hS (v := ?vOp212) rfl (fun _ _ _ h => h) (yl rfl ?yOp212) ?_
            case yOp212 => (intro w hw; go_simp; first | done | rfl)
            simp only [Act.put, Act.eval, List.setIfInBounds_toArray, List.set_cons_zero, List.set_cons_succ, Array.getD_eq_getD_getElem?, List.getElem?_toArray, List.getElem?_cons_zero, List.getElem?_cons_succ, Option.getD_some]
            refine wpL_end ?_
            clear hOps hS ops
            go_wp2
            go_roundw
            case rel => exact ⟨j + 1, by omega, by go_num, U, un, hU, by omega, by omega, rheap_shut (H.mask [true, true, true])⟩
            case measure => simp [intOf]; omega
        · go_wp2_with ((with_reducible refine wpList_op rfl ?_); intro _ hK; first | (refine wp_alloc_sl _ rfl info_Step H (fun B w' (H : At w [raw B _ 30, _, _] w') _ => hK _ _ ?_)) | (refine wp_store_row_sl (cells := (stepC kd t x).toArray) _ _ _ rfl rfl rfl (by kernel_rfl) (by simp [stepC, Value.oneCell']) 0 H rfl rfl fun w' (H : At w [raw B #[.int .i64 kd, .int .u64 t, .int .i64 x] 30, _, _] w') => hK _ _ ?_) | (refine wp_mid 30 _ rfl rfl (stepC kd t x) (by kernel_rfl) (by kernel_rfl) hst' (hK _ _ ?_)) | (refine wp_get _ _ rfl rfl (by kernel_rfl) (raw_at (H.heap 0 rfl) rfl) (hK _ _ ?_)))
          refine (popI_c (H.pull 2 rfl) hR (by omega) _).mono ?_; rintro e w' ⟨rfl, H⟩
          go_wp2_with ((with_reducible refine wpList_op rfl ?_); intro _ hK; refine wp_get _ _ rfl rfl (by kernel_rfl) (raw_at (H.heap 1 rfl) rfl) (hK _ _ ?_))
          refine (rpop_c (H.pull 2 rfl) (by omega) _).mono ?_; rintro e w' ⟨rfl, H⟩
          have hp2 := popR_le T t
          have hU := hR.popR t
          obtain ⟨U, hUe⟩ : ∃ U, U = popR T t := ⟨_, rfl⟩
          obtain ⟨un, hue⟩ : ∃ un, un = n := ⟨_, rfl⟩
          rw [← hUe] at H hp2 hU
          rw [← hue] at H hU hn
          clear hUe hue
          by_cases h0 : 0 < U.length
          · have hk := fk_lt h0
            have hd := Lib.hid (decide_eq_true h0)
            have hz := Lib.hid (show firstZ U U.length = (fk U : Int) from firstZ_pos h0)
            have hnt := Lib.hid (show nextT U = (g U (fk U)).1 by unfold nextT; rw [if_pos h0])
            obtain ⟨k, hk2⟩ : ∃ k, k = fk U := ⟨_, rfl⟩
            rw [← hk2] at hk hz hnt
            have Hg := Lib.hid (g_get hk)
            have hk3 : (k : Int) < U.length := by omega
            clear hk2
            go_wp2_with fail
            refine (nextI_c (H.pull 1 rfl) hU).mono ?_; rintro e w' ⟨rfl, rfl⟩
            rw [hd.out, hnt.out]
            obtain ⟨ra, rc, H2⟩ := rheap_open H
            clear H
            go_wp2_with fail
            refine (rfirst_walk H2 (by omega)).mono ?_; rintro e w' ⟨rfl, H⟩
            clear H2
            rw [hz.out]
            obtain ⟨gb, ob, rfl⟩ := lrow_place H 1 rfl h0
            go_wp2_with fail
            refine wpL_begin 41 (At w [raw q #[.int .i64 M, .slice (some ⟨gb, ob, none⟩) U.length rc, .int .u64 un] 41, lrow 43 3 (thC .i64) (.slice (some ⟨gb, ob, none⟩) U.length rc) U, heapI p M un U, raw B #[.int .i64 kd, .int .u64 t, .int .i64 x] 30]) [(0, true), (1, true), (2, true), (3, true), (5, true), (6, true), (7, true), (8, true), (9, true), (4, false), (10, true), (11, true), (12, true), (13, true), (14, true), (15, true), (16, true), (17, true), (18, true), (19, true), (20, true), (21, true), (22, true), (23, true), (24, true), (25, true), (26, true), (27, true), (28, true), (29, true), (30, true), (31, true), (32, true), (33, true), (34, true), (35, true), (36, true), (37, true), (38, true), (39, true), (40, true)] rfl (by kernel_rfl) (by kernel_rfl) ((H.drew)) ?_
            intro ops hOps hS
            replace H := H.drew
            refine wpL_take hOps hS rfl (fun _ _ _ h => h) (yl_move rfl _ rfl) ?_
            simp only [Act.put, Act.eval, List.setIfInBounds_toArray, List.set_cons_zero, List.set_cons_succ, Array.getD_eq_getD_getElem?, List.getElem?_toArray, List.getElem?_cons_zero, List.getElem?_cons_succ, Option.getD_some]
            refine wpL_take hOps hS (v := ?vOp223) rfl (fun _ _ _ h => h) (yl rfl ?yOp223) ?_
            case yOp223 => (intro w hw; go_simp; first | done | rfl)
            simp only [Act.put, Act.eval, List.setIfInBounds_toArray, List.set_cons_zero, List.set_cons_succ, Array.getD_eq_getD_getElem?, List.getElem?_toArray, List.getElem?_cons_zero, List.getElem?_cons_succ, Option.getD_some]
            refine wpL_take hOps hS rfl (fun _ _ _ h => h) (yl_move rfl _ rfl) ?_
            simp only [Act.put, Act.eval, List.setIfInBounds_toArray, List.set_cons_zero, List.set_cons_succ, Array.getD_eq_getD_getElem?, List.getElem?_toArray, List.getElem?_cons_zero, List.getElem?_cons_succ, Option.getD_some]
            refine wpL_take hOps hS rfl (fun _ _ _ h => h) (yl_move rfl _ rfl) ?_
            simp only [Act.put, Act.eval, List.setIfInBounds_toArray, List.set_cons_zero, List.set_cons_succ, Array.getD_eq_getD_getElem?, List.getElem?_toArray, List.getElem?_cons_zero, List.getElem?_cons_succ, Option.getD_some]
            refine wpL_take hOps hS rfl (fun _ _ _ h => h) (yl_move rfl _ rfl) ?_
            simp only [Act.put, Act.eval, List.setIfInBounds_toArray, List.set_cons_zero, List.set_cons_succ, Array.getD_eq_getD_getElem?, List.getElem?_toArray, List.getElem?_cons_zero, List.getElem?_cons_succ, Option.getD_some]
            refine wpL_take hOps hS rfl (fun _ _ _ h => h) (yl_nil rfl _ rfl _ rfl) ?_
            simp only [Act.put, Act.eval, List.setIfInBounds_toArray, List.set_cons_zero, List.set_cons_succ, Array.getD_eq_getD_getElem?, List.getElem?_toArray, List.getElem?_cons_zero, List.getElem?_cons_succ, Option.getD_some]
            refine wpL_take hOps hS (v := ?vOp237) rfl (fun _ _ _ h => h) (yl rfl ?yOp237) ?_
            case yOp237 => (intro w hw; go_simp; first | done | rfl)
            simp only [Act.put, Act.eval, List.setIfInBounds_toArray, List.set_cons_zero, List.set_cons_succ, Array.getD_eq_getD_getElem?, List.getElem?_toArray, List.getElem?_cons_zero, List.getElem?_cons_succ, Option.getD_some]
            refine wpL_take hOps hS rfl (fun _ _ _ h => h) (yl_get rfl _ _ rfl rfl (by kernel_rfl) (fun w hw => raw_at (At.heap hw 0 rfl) rfl)) ?_
            simp only [Act.put, Act.eval, List.setIfInBounds_toArray, List.set_cons_zero, List.set_cons_succ, Array.getD_eq_getD_getElem?, List.getElem?_toArray, List.getElem?_cons_zero, List.getElem?_cons_succ, Option.getD_some]
            refine wpL_take hOps hS (v := ?vOp241) rfl (fun _ _ _ h => h) (yl rfl ?yOp241) ?_
            case yOp241 => (intro w hw; go_simp; first | done | rfl)
            simp only [Act.put, Act.eval, List.setIfInBounds_toArray, List.set_cons_zero, List.set_cons_succ, Array.getD_eq_getD_getElem?, List.getElem?_toArray, List.getElem?_cons_zero, List.getElem?_cons_succ, Option.getD_some]
            refine wpL_next hOps rfl rfl ?_
            intro K hK
            refine wp_call _ _ _ rfl Try.func18 rfl (by kernel_rfl) ?_
            simp only [List.map_toArray, List.map_cons, List.map_nil, Act.eval, Array.getD_eq_getD_getElem?, List.getElem?_toArray, List.getElem?_cons_zero, List.getElem?_cons_succ, Option.getD_some]
            refine (lenI_c (H.pull 2 rfl)).mono ?_; rintro e w' ⟨rfl, rfl⟩
            have hS := (H)
            refine hK _ _ hS ?_
            clear hK K
            simp only [Act.put, Act.eval, List.setIfInBounds_toArray, List.set_cons_zero, List.set_cons_succ, Array.getD_eq_getD_getElem?, List.getElem?_toArray, List.getElem?_cons_zero, List.getElem?_cons_succ, Option.getD_some]
            refine wpL_take hOps hS (v := ?vOp247) rfl (fun _ _ _ h => h) (yl rfl ?yOp247) ?_
            case yOp247 => (intro w hw; go_simp; first | done | rfl)
            simp only [Act.put, Act.eval, List.setIfInBounds_toArray, List.set_cons_zero, List.set_cons_succ, Array.getD_eq_getD_getElem?, List.getElem?_toArray, List.getElem?_cons_zero, List.getElem?_cons_succ, Option.getD_some]
            refine wpL_take hOps hS (v := ?vOp249) rfl (fun _ _ _ h => h) (yl rfl ?yOp249) ?_
            case yOp249 => (intro w hw; go_simp; first | done | rfl)
            simp only [Act.put, Act.eval, List.setIfInBounds_toArray, List.set_cons_zero, List.set_cons_succ, Array.getD_eq_getD_getElem?, List.getElem?_toArray, List.getElem?_cons_zero, List.getElem?_cons_succ, Option.getD_some]
            refine wpL_take hOps hS rfl (fun _ _ _ h => h) (yl_move rfl _ rfl) ?_
            simp only [Act.put, Act.eval, List.setIfInBounds_toArray, List.set_cons_zero, List.set_cons_succ, Array.getD_eq_getD_getElem?, List.getElem?_toArray, List.getElem?_cons_zero, List.getElem?_cons_succ, Option.getD_some]
            refine wpL_take hOps hS rfl (fun _ _ _ h => h) (yl_move rfl _ rfl) ?_
            simp only [Act.put, Act.eval, List.setIfInBounds_toArray, List.set_cons_zero, List.set_cons_succ, Array.getD_eq_getD_getElem?, List.getElem?_toArray, List.getElem?_cons_zero, List.getElem?_cons_succ, Option.getD_some]
            refine wpL_take hOps hS rfl (fun _ _ _ h => h) (yl_move rfl _ rfl) ?_
            simp only [Act.put, Act.eval, List.setIfInBounds_toArray, List.set_cons_zero, List.set_cons_succ, Array.getD_eq_getD_getElem?, List.getElem?_toArray, List.getElem?_cons_zero, List.getElem?_cons_succ, Option.getD_some]
            refine wpL_take hOps hS (v := ?vOp260) rfl (fun _ _ _ h => h) (yl rfl ?yOp260) ?_
            case yOp260 => (intro w hw; go_simp; first | done | rfl)
            simp only [Act.put, Act.eval, List.setIfInBounds_toArray, List.set_cons_zero, List.set_cons_succ, Array.getD_eq_getD_getElem?, List.getElem?_toArray, List.getElem?_cons_zero, List.getElem?_cons_succ, Option.getD_some]
            refine wpL_take hOps hS (v := ?vOp262) rfl (fun _ _ _ h => h) (yl rfl ?yOp262) ?_
            case yOp262 => (intro w hw; go_simp; first | done | rfl)
            simp only [Act.put, Act.eval, List.setIfInBounds_toArray, List.set_cons_zero, List.set_cons_succ, Array.getD_eq_getD_getElem?, List.getElem?_toArray, List.getElem?_cons_zero, List.getElem?_cons_succ, Option.getD_some]
            refine wpL_take hOps hS (v := ?vOp264) rfl (fun _ _ _ h => h) (yl rfl ?yOp264) ?_
            case yOp264 => (intro w hw; go_simp; first | done | rfl)
            simp only [Act.put, Act.eval, List.setIfInBounds_toArray, List.set_cons_zero, List.set_cons_succ, Array.getD_eq_getD_getElem?, List.getElem?_toArray, List.getElem?_cons_zero, List.getElem?_cons_succ, Option.getD_some]
            refine wpL_take hOps hS rfl (fun _ _ _ h => h) (yl_move rfl _ rfl) ?_
            simp only [Act.put, Act.eval, List.setIfInBounds_toArray, List.set_cons_zero, List.set_cons_succ, Array.getD_eq_getD_getElem?, List.getElem?_toArray, List.getElem?_cons_zero, List.getElem?_cons_succ, Option.getD_some]
            refine wpL_take hOps hS rfl (fun _ _ _ h => h) (yl_move rfl _ rfl) ?_
            simp only [Act.put, Act.eval, List.setIfInBounds_toArray, List.set_cons_zero, List.set_cons_succ, Array.getD_eq_getD_getElem?, List.getElem?_toArray, List.getElem?_cons_zero, List.getElem?_cons_succ, Option.getD_some]
            refine wpL_take hOps hS rfl (fun _ _ _ h => h) (yl_move rfl _ rfl) ?_
            simp only [Act.put, Act.eval, List.setIfInBounds_toArray, List.set_cons_zero, List.set_cons_succ, Array.getD_eq_getD_getElem?, List.getElem?_toArray, List.getElem?_cons_zero, List.getElem?_cons_succ, Option.getD_some]
            refine wpL_take hOps hS rfl (fun _ _ _ h => h) (yl_move rfl _ rfl) ?_
            simp only [Act.put, Act.eval, List.setIfInBounds_toArray, List.set_cons_zero, List.set_cons_succ, Array.getD_eq_getD_getElem?, List.getElem?_toArray, List.getElem?_cons_zero, List.getElem?_cons_succ, Option.getD_some]
            refine wpL_take hOps hS rfl (fun _ _ _ h => h) (yl_move rfl _ rfl) ?_
            simp only [Act.put, Act.eval, List.setIfInBounds_toArray, List.set_cons_zero, List.set_cons_succ, Array.getD_eq_getD_getElem?, List.getElem?_toArray, List.getElem?_cons_zero, List.getElem?_cons_succ, Option.getD_some]
            refine wpL_take hOps hS rfl (fun _ _ _ h => h) (yl_nil rfl _ rfl _ rfl) ?_
            simp only [Act.put, Act.eval, List.setIfInBounds_toArray, List.set_cons_zero, List.set_cons_succ, Array.getD_eq_getD_getElem?, List.getElem?_toArray, List.getElem?_cons_zero, List.getElem?_cons_succ, Option.getD_some]
            refine wpL_take hOps hS (v := ?vOp284) rfl (fun _ _ _ h => h) (yl rfl ?yOp284) ?_
            case yOp284 => (intro w hw; go_simp; first | done | rfl)
            simp only [Act.put, Act.eval, List.setIfInBounds_toArray, List.set_cons_zero, List.set_cons_succ, Array.getD_eq_getD_getElem?, List.getElem?_toArray, List.getElem?_cons_zero, List.getElem?_cons_succ, Option.getD_some]
            refine wpL_take hOps hS rfl (fun _ _ _ h => h) (yl_get rfl _ _ rfl rfl (by kernel_rfl) (fun w hw => raw_at (At.heap hw 0 rfl) rfl)) ?_
            simp only [Act.put, Act.eval, List.setIfInBounds_toArray, List.set_cons_zero, List.set_cons_succ, Array.getD_eq_getD_getElem?, List.getElem?_toArray, List.getElem?_cons_zero, List.getElem?_cons_succ, Option.getD_some]
            refine wpL_take hOps hS rfl (fun _ _ _ h => h) (yl_move rfl _ rfl) ?_
            simp only [Act.put, Act.eval, List.setIfInBounds_toArray, List.set_cons_zero, List.set_cons_succ, Array.getD_eq_getD_getElem?, List.getElem?_toArray, List.getElem?_cons_zero, List.getElem?_cons_succ, Option.getD_some]
            refine wpL_take hOps hS (v := ?vOp291) rfl (fun _ _ _ h => h) (yl rfl ?yOp291) ?_
            case yOp291 => (intro w hw; go_simp; first | done | rfl)
            simp only [Act.put, Act.eval, List.setIfInBounds_toArray, List.set_cons_zero, List.set_cons_succ, Array.getD_eq_getD_getElem?, List.getElem?_toArray, List.getElem?_cons_zero, List.getElem?_cons_succ, Option.getD_some]
            refine wpL_take hOps hS (v := ?vOp293) rfl (fun _ _ _ h => h) (yl rfl ?yOp293) ?_
            case yOp293 => (intro w hw; go_simp; first | done | rfl)
            simp only [Act.put, Act.eval, List.setIfInBounds_toArray, List.set_cons_zero, List.set_cons_succ, Array.getD_eq_getD_getElem?, List.getElem?_toArray, List.getElem?_cons_zero, List.getElem?_cons_succ, Option.getD_some]
            refine wpL_take hOps hS rfl (fun _ _ _ h => h) (yl_get rfl _ _ rfl rfl (by kernel_rfl) (fun w hw => lrow_cell el_rt (j := 0) hw 1 rfl Hg.out rfl)) ?_
            simp only [Act.put, Act.eval, List.setIfInBounds_toArray, List.set_cons_zero, List.set_cons_succ, Array.getD_eq_getD_getElem?, List.getElem?_toArray, List.getElem?_cons_zero, List.getElem?_cons_succ, Option.getD_some]
            refine wpL_take hOps hS (v := ?vOp297) rfl (fun _ _ _ h => h) (yl rfl ?yOp297) ?_
            case yOp297 => (intro w hw; go_simp; first | done | rfl)
            simp only [Act.put, Act.eval, List.setIfInBounds_toArray, List.set_cons_zero, List.set_cons_succ, Array.getD_eq_getD_getElem?, List.getElem?_toArray, List.getElem?_cons_zero, List.getElem?_cons_succ, Option.getD_some]
            refine wpL_take hOps hS (v := ?vOp300) rfl (fun _ _ _ h => h) (yl rfl ?yOp300) ?_
            case yOp300 => (intro w hw; go_simp; first | done | rfl)
            simp only [Act.put, Act.eval, List.setIfInBounds_toArray, List.set_cons_zero, List.set_cons_succ, Array.getD_eq_getD_getElem?, List.getElem?_toArray, List.getElem?_cons_zero, List.getElem?_cons_succ, Option.getD_some]
            refine wpL_take hOps hS (v := ?vOp302) rfl (fun _ _ _ h => h) (yl rfl ?yOp302) ?_
            case yOp302 => (intro w hw; go_simp; first | done | rfl)
            simp only [Act.put, Act.eval, List.setIfInBounds_toArray, List.set_cons_zero, List.set_cons_succ, Array.getD_eq_getD_getElem?, List.getElem?_toArray, List.getElem?_cons_zero, List.getElem?_cons_succ, Option.getD_some]
            refine wpL_take hOps hS rfl (fun _ _ _ h => h) (yl_move rfl _ rfl) ?_
            simp only [Act.put, Act.eval, List.setIfInBounds_toArray, List.set_cons_zero, List.set_cons_succ, Array.getD_eq_getD_getElem?, List.getElem?_toArray, List.getElem?_cons_zero, List.getElem?_cons_succ, Option.getD_some]
            refine wpL_take hOps hS rfl (fun _ _ _ h => h) (yl_move rfl _ rfl) ?_
            simp only [Act.put, Act.eval, List.setIfInBounds_toArray, List.set_cons_zero, List.set_cons_succ, Array.getD_eq_getD_getElem?, List.getElem?_toArray, List.getElem?_cons_zero, List.getElem?_cons_succ, Option.getD_some]
            refine wpL_take hOps hS (v := ?vOp310) rfl (fun _ _ _ h => h) (yl rfl ?yOp310) ?_
            case yOp310 => (intro w hw; go_simp; first | done | rfl)
            simp only [Act.put, Act.eval, List.setIfInBounds_toArray, List.set_cons_zero, List.set_cons_succ, Array.getD_eq_getD_getElem?, List.getElem?_toArray, List.getElem?_cons_zero, List.getElem?_cons_succ, Option.getD_some]
            refine wpL_take hOps hS rfl (fun _ _ _ h => h) (yl_move rfl _ rfl) ?_
            simp only [Act.put, Act.eval, List.setIfInBounds_toArray, List.set_cons_zero, List.set_cons_succ, Array.getD_eq_getD_getElem?, List.getElem?_toArray, List.getElem?_cons_zero, List.getElem?_cons_succ, Option.getD_some]
            refine wpL_take hOps hS rfl (fun _ _ _ h => h) (yn rfl) ?_
            simp only [Act.put, Act.eval, List.setIfInBounds_toArray, List.set_cons_zero, List.set_cons_succ, Array.getD_eq_getD_getElem?, List.getElem?_toArray, List.getElem?_cons_zero, List.getElem?_cons_succ, Option.getD_some]
            refine wpL_take hOps hS rfl (fun _ _ _ h => h) (yn rfl) ?_
            simp only [Act.put, Act.eval, List.setIfInBounds_toArray, List.set_cons_zero, List.set_cons_succ, Array.getD_eq_getD_getElem?, List.getElem?_toArray, List.getElem?_cons_zero, List.getElem?_cons_succ, Option.getD_some]
            refine wpL_take hOps hS (v := ?vOp320) rfl (fun _ _ _ h => h) (yl rfl ?yOp320) ?_
            case yOp320 => (intro w hw; go_simp; first | done | rfl)
            simp only [Act.put, Act.eval, List.setIfInBounds_toArray, List.set_cons_zero, List.set_cons_succ, Array.getD_eq_getD_getElem?, List.getElem?_toArray, List.getElem?_cons_zero, List.getElem?_cons_succ, Option.getD_some]
            refine wpL_take hOps hS (v := ?vOp322) rfl (fun _ _ _ h => h) (yl rfl ?yOp322) ?_
            case yOp322 => (intro w hw; go_simp; first | done | rfl)
            simp only [Act.put, Act.eval, List.setIfInBounds_toArray, List.set_cons_zero, List.set_cons_succ, Array.getD_eq_getD_getElem?, List.getElem?_toArray, List.getElem?_cons_zero, List.getElem?_cons_succ, Option.getD_some]
            refine wpL_end ?_
            clear hOps hS ops
            go_wp2
            go_roundw
            case rel => exact ⟨j + 1, by omega, by go_num, U, un, hU, by omega, by omega, rheap_shut (H.mask [true, true, true])⟩
            case measure => simp [intOf]; omega
          · have hd := Lib.hid (decide_eq_false h0)
            have hz := Lib.hid (show firstZ U U.length = -1 from by unfold firstZ; rw [if_pos (by omega)])
            have hnt := Lib.hid (show nextT U = 0 by unfold nextT; rw [if_neg h0])
            go_wp2_with fail
            refine (nextI_c (H.pull 1 rfl) hU).mono ?_; rintro e w' ⟨rfl, rfl⟩
            rw [hd.out, hnt.out]
            obtain ⟨ra, rc, H2⟩ := rheap_open H
            clear H
            go_wp2_with fail
            refine (rfirst_walk H2 (by omega)).mono ?_; rintro e w' ⟨rfl, H⟩
            clear H2
            rw [hz.out]
            go_wp2_with fail
            refine wpL_begin 41 (At w [raw q #[.int .i64 M, .slice ra U.length rc, .int .u64 un] 41, lrow 43 3 (thC .i64) (.slice ra U.length rc) U, heapI p M un U, raw B #[.int .i64 kd, .int .u64 t, .int .i64 x] 30]) [(0, true), (1, true), (2, true), (3, true), (5, true), (6, true), (7, true), (8, true), (9, true), (4, false), (10, true), (11, true), (12, true), (13, true), (14, true), (15, true), (16, true), (17, true), (18, true), (19, true), (20, true), (21, true), (22, true), (23, true), (24, true), (25, true), (26, true), (27, true), (28, true), (29, true), (30, true), (31, true), (32, true), (33, true), (34, true), (35, true), (36, true), (37, true), (38, true), (39, true), (40, true)] rfl (by kernel_rfl) (by kernel_rfl) ((H.drew)) ?_
            intro ops hOps hS
            replace H := H.drew
            refine wpL_take hOps hS rfl (fun _ _ _ h => h) (yl_move rfl _ rfl) ?_
            simp only [Act.put, Act.eval, List.setIfInBounds_toArray, List.set_cons_zero, List.set_cons_succ, Array.getD_eq_getD_getElem?, List.getElem?_toArray, List.getElem?_cons_zero, List.getElem?_cons_succ, Option.getD_some]
            refine wpL_take hOps hS (v := ?vOp330) rfl (fun _ _ _ h => h) (yl rfl ?yOp330) ?_
            case yOp330 => (intro w hw; go_simp; first | done | rfl)
            simp only [Act.put, Act.eval, List.setIfInBounds_toArray, List.set_cons_zero, List.set_cons_succ, Array.getD_eq_getD_getElem?, List.getElem?_toArray, List.getElem?_cons_zero, List.getElem?_cons_succ, Option.getD_some]
            refine wpL_take hOps hS rfl (fun _ _ _ h => h) (yl_move rfl _ rfl) ?_
            simp only [Act.put, Act.eval, List.setIfInBounds_toArray, List.set_cons_zero, List.set_cons_succ, Array.getD_eq_getD_getElem?, List.getElem?_toArray, List.getElem?_cons_zero, List.getElem?_cons_succ, Option.getD_some]
            refine wpL_take hOps hS rfl (fun _ _ _ h => h) (yl_move rfl _ rfl) ?_
            simp only [Act.put, Act.eval, List.setIfInBounds_toArray, List.set_cons_zero, List.set_cons_succ, Array.getD_eq_getD_getElem?, List.getElem?_toArray, List.getElem?_cons_zero, List.getElem?_cons_succ, Option.getD_some]
            refine wpL_take hOps hS rfl (fun _ _ _ h => h) (yl_move rfl _ rfl) ?_
            simp only [Act.put, Act.eval, List.setIfInBounds_toArray, List.set_cons_zero, List.set_cons_succ, Array.getD_eq_getD_getElem?, List.getElem?_toArray, List.getElem?_cons_zero, List.getElem?_cons_succ, Option.getD_some]
            refine wpL_take hOps hS rfl (fun _ _ _ h => h) (yl_nil rfl _ rfl _ rfl) ?_
            simp only [Act.put, Act.eval, List.setIfInBounds_toArray, List.set_cons_zero, List.set_cons_succ, Array.getD_eq_getD_getElem?, List.getElem?_toArray, List.getElem?_cons_zero, List.getElem?_cons_succ, Option.getD_some]
            refine wpL_take hOps hS (v := ?vOp344) rfl (fun _ _ _ h => h) (yl rfl ?yOp344) ?_
            case yOp344 => (intro w hw; go_simp; first | done | rfl)
            simp only [Act.put, Act.eval, List.setIfInBounds_toArray, List.set_cons_zero, List.set_cons_succ, Array.getD_eq_getD_getElem?, List.getElem?_toArray, List.getElem?_cons_zero, List.getElem?_cons_succ, Option.getD_some]
            refine wpL_take hOps hS rfl (fun _ _ _ h => h) (yl_get rfl _ _ rfl rfl (by kernel_rfl) (fun w hw => raw_at (At.heap hw 0 rfl) rfl)) ?_
            simp only [Act.put, Act.eval, List.setIfInBounds_toArray, List.set_cons_zero, List.set_cons_succ, Array.getD_eq_getD_getElem?, List.getElem?_toArray, List.getElem?_cons_zero, List.getElem?_cons_succ, Option.getD_some]
            refine wpL_take hOps hS (v := ?vOp348) rfl (fun _ _ _ h => h) (yl rfl ?yOp348) ?_
            case yOp348 => (intro w hw; go_simp; first | done | rfl)
            simp only [Act.put, Act.eval, List.setIfInBounds_toArray, List.set_cons_zero, List.set_cons_succ, Array.getD_eq_getD_getElem?, List.getElem?_toArray, List.getElem?_cons_zero, List.getElem?_cons_succ, Option.getD_some]
            refine wpL_next hOps rfl rfl ?_
            intro K hK
            refine wp_call _ _ _ rfl Try.func18 rfl (by kernel_rfl) ?_
            simp only [List.map_toArray, List.map_cons, List.map_nil, Act.eval, Array.getD_eq_getD_getElem?, List.getElem?_toArray, List.getElem?_cons_zero, List.getElem?_cons_succ, Option.getD_some]
            refine (lenI_c (H.pull 2 rfl)).mono ?_; rintro e w' ⟨rfl, rfl⟩
            have hS := (H)
            refine hK _ _ hS ?_
            clear hK K
            simp only [Act.put, Act.eval, List.setIfInBounds_toArray, List.set_cons_zero, List.set_cons_succ, Array.getD_eq_getD_getElem?, List.getElem?_toArray, List.getElem?_cons_zero, List.getElem?_cons_succ, Option.getD_some]
            refine wpL_take hOps hS (v := ?vOp354) rfl (fun _ _ _ h => h) (yl rfl ?yOp354) ?_
            case yOp354 => (intro w hw; go_simp; first | done | rfl)
            simp only [Act.put, Act.eval, List.setIfInBounds_toArray, List.set_cons_zero, List.set_cons_succ, Array.getD_eq_getD_getElem?, List.getElem?_toArray, List.getElem?_cons_zero, List.getElem?_cons_succ, Option.getD_some]
            refine wpL_take hOps hS (v := ?vOp356) rfl (fun _ _ _ h => h) (yl rfl ?yOp356) ?_
            case yOp356 => (intro w hw; go_simp; first | done | rfl)
            simp only [Act.put, Act.eval, List.setIfInBounds_toArray, List.set_cons_zero, List.set_cons_succ, Array.getD_eq_getD_getElem?, List.getElem?_toArray, List.getElem?_cons_zero, List.getElem?_cons_succ, Option.getD_some]
            refine wpL_take hOps hS rfl (fun _ _ _ h => h) (yl_move rfl _ rfl) ?_
            simp only [Act.put, Act.eval, List.setIfInBounds_toArray, List.set_cons_zero, List.set_cons_succ, Array.getD_eq_getD_getElem?, List.getElem?_toArray, List.getElem?_cons_zero, List.getElem?_cons_succ, Option.getD_some]
            refine wpL_take hOps hS rfl (fun _ _ _ h => h) (yl_move rfl _ rfl) ?_
            simp only [Act.put, Act.eval, List.setIfInBounds_toArray, List.set_cons_zero, List.set_cons_succ, Array.getD_eq_getD_getElem?, List.getElem?_toArray, List.getElem?_cons_zero, List.getElem?_cons_succ, Option.getD_some]
            refine wpL_take hOps hS rfl (fun _ _ _ h => h) (yl_move rfl _ rfl) ?_
            simp only [Act.put, Act.eval, List.setIfInBounds_toArray, List.set_cons_zero, List.set_cons_succ, Array.getD_eq_getD_getElem?, List.getElem?_toArray, List.getElem?_cons_zero, List.getElem?_cons_succ, Option.getD_some]
            refine wpL_take hOps hS (v := ?vOp367) rfl (fun _ _ _ h => h) (yl rfl ?yOp367) ?_
            case yOp367 => (intro w hw; go_simp; first | done | rfl)
            simp only [Act.put, Act.eval, List.setIfInBounds_toArray, List.set_cons_zero, List.set_cons_succ, Array.getD_eq_getD_getElem?, List.getElem?_toArray, List.getElem?_cons_zero, List.getElem?_cons_succ, Option.getD_some]
            refine wpL_take hOps hS (v := ?vOp369) rfl (fun _ _ _ h => h) (yl rfl ?yOp369) ?_
            case yOp369 => (intro w hw; go_simp; first | done | rfl)
            simp only [Act.put, Act.eval, List.setIfInBounds_toArray, List.set_cons_zero, List.set_cons_succ, Array.getD_eq_getD_getElem?, List.getElem?_toArray, List.getElem?_cons_zero, List.getElem?_cons_succ, Option.getD_some]
            refine wpL_take hOps hS (v := ?vOp371) rfl (fun _ _ _ h => h) (yl rfl ?yOp371) ?_
            case yOp371 => (intro w hw; go_simp; first | done | rfl)
            simp only [Act.put, Act.eval, List.setIfInBounds_toArray, List.set_cons_zero, List.set_cons_succ, Array.getD_eq_getD_getElem?, List.getElem?_toArray, List.getElem?_cons_zero, List.getElem?_cons_succ, Option.getD_some]
            refine wpL_take hOps hS rfl (fun _ _ _ h => h) (yl_move rfl _ rfl) ?_
            simp only [Act.put, Act.eval, List.setIfInBounds_toArray, List.set_cons_zero, List.set_cons_succ, Array.getD_eq_getD_getElem?, List.getElem?_toArray, List.getElem?_cons_zero, List.getElem?_cons_succ, Option.getD_some]
            refine wpL_take hOps hS rfl (fun _ _ _ h => h) (yl_move rfl _ rfl) ?_
            simp only [Act.put, Act.eval, List.setIfInBounds_toArray, List.set_cons_zero, List.set_cons_succ, Array.getD_eq_getD_getElem?, List.getElem?_toArray, List.getElem?_cons_zero, List.getElem?_cons_succ, Option.getD_some]
            refine wpL_take hOps hS rfl (fun _ _ _ h => h) (yl_move rfl _ rfl) ?_
            simp only [Act.put, Act.eval, List.setIfInBounds_toArray, List.set_cons_zero, List.set_cons_succ, Array.getD_eq_getD_getElem?, List.getElem?_toArray, List.getElem?_cons_zero, List.getElem?_cons_succ, Option.getD_some]
            refine wpL_take hOps hS rfl (fun _ _ _ h => h) (yn rfl) ?_
            simp only [Act.put, Act.eval, List.setIfInBounds_toArray, List.set_cons_zero, List.set_cons_succ, Array.getD_eq_getD_getElem?, List.getElem?_toArray, List.getElem?_cons_zero, List.getElem?_cons_succ, Option.getD_some]
            refine wpL_take hOps hS rfl (fun _ _ _ h => h) (yn rfl) ?_
            simp only [Act.put, Act.eval, List.setIfInBounds_toArray, List.set_cons_zero, List.set_cons_succ, Array.getD_eq_getD_getElem?, List.getElem?_toArray, List.getElem?_cons_zero, List.getElem?_cons_succ, Option.getD_some]
            refine wpL_take hOps hS rfl (fun _ _ _ h => h) (yn rfl) ?_
            simp only [Act.put, Act.eval, List.setIfInBounds_toArray, List.set_cons_zero, List.set_cons_succ, Array.getD_eq_getD_getElem?, List.getElem?_toArray, List.getElem?_cons_zero, List.getElem?_cons_succ, Option.getD_some]
            refine wpL_take hOps hS rfl (fun _ _ _ h => h) (yn rfl) ?_
            simp only [Act.put, Act.eval, List.setIfInBounds_toArray, List.set_cons_zero, List.set_cons_succ, Array.getD_eq_getD_getElem?, List.getElem?_toArray, List.getElem?_cons_zero, List.getElem?_cons_succ, Option.getD_some]
            refine wpL_take hOps hS rfl (fun _ _ _ h => h) (yn rfl) ?_
            simp only [Act.put, Act.eval, List.setIfInBounds_toArray, List.set_cons_zero, List.set_cons_succ, Array.getD_eq_getD_getElem?, List.getElem?_toArray, List.getElem?_cons_zero, List.getElem?_cons_succ, Option.getD_some]
            refine wpL_take hOps hS rfl (fun _ _ _ h => h) (yn rfl) ?_
            simp only [Act.put, Act.eval, List.setIfInBounds_toArray, List.set_cons_zero, List.set_cons_succ, Array.getD_eq_getD_getElem?, List.getElem?_toArray, List.getElem?_cons_zero, List.getElem?_cons_succ, Option.getD_some]
            refine wpL_take hOps hS rfl (fun _ _ _ h => h) (yn rfl) ?_
            simp only [Act.put, Act.eval, List.setIfInBounds_toArray, List.set_cons_zero, List.set_cons_succ, Array.getD_eq_getD_getElem?, List.getElem?_toArray, List.getElem?_cons_zero, List.getElem?_cons_succ, Option.getD_some]
            refine wpL_take hOps hS rfl (fun _ _ _ h => h) (yn rfl) ?_
            simp only [Act.put, Act.eval, List.setIfInBounds_toArray, List.set_cons_zero, List.set_cons_succ, Array.getD_eq_getD_getElem?, List.getElem?_toArray, List.getElem?_cons_zero, List.getElem?_cons_succ, Option.getD_some]
            refine wpL_take hOps hS rfl (fun _ _ _ h => h) (yn rfl) ?_
            simp only [Act.put, Act.eval, List.setIfInBounds_toArray, List.set_cons_zero, List.set_cons_succ, Array.getD_eq_getD_getElem?, List.getElem?_toArray, List.getElem?_cons_zero, List.getElem?_cons_succ, Option.getD_some]
            refine wpL_take hOps hS rfl (fun _ _ _ h => h) (yn rfl) ?_
            simp only [Act.put, Act.eval, List.setIfInBounds_toArray, List.set_cons_zero, List.set_cons_succ, Array.getD_eq_getD_getElem?, List.getElem?_toArray, List.getElem?_cons_zero, List.getElem?_cons_succ, Option.getD_some]
            refine wpL_take hOps hS (v := ?vOp403) rfl (fun _ _ _ h => h) (yl rfl ?yOp403) ?_
            case yOp403 => (intro w hw; go_simp; first | done | rfl)
            simp only [Act.put, Act.eval, List.setIfInBounds_toArray, List.set_cons_zero, List.set_cons_succ, Array.getD_eq_getD_getElem?, List.getElem?_toArray, List.getElem?_cons_zero, List.getElem?_cons_succ, Option.getD_some]
            refine wpL_take hOps hS (v := ?vOp405) rfl (fun _ _ _ h => h) (yl rfl ?yOp405) ?_
            case yOp405 => (intro w hw; go_simp; first | done | rfl)
            simp only [Act.put, Act.eval, List.setIfInBounds_toArray, List.set_cons_zero, List.set_cons_succ, Array.getD_eq_getD_getElem?, List.getElem?_toArray, List.getElem?_cons_zero, List.getElem?_cons_succ, Option.getD_some]
            refine wpL_take hOps hS rfl (fun _ _ _ h => h) (yl_move rfl _ rfl) ?_
            simp only [Act.put, Act.eval, List.setIfInBounds_toArray, List.set_cons_zero, List.set_cons_succ, Array.getD_eq_getD_getElem?, List.getElem?_toArray, List.getElem?_cons_zero, List.getElem?_cons_succ, Option.getD_some]
            refine wpL_take hOps hS rfl (fun _ _ _ h => h) (yl_move rfl _ rfl) ?_
            simp only [Act.put, Act.eval, List.setIfInBounds_toArray, List.set_cons_zero, List.set_cons_succ, Array.getD_eq_getD_getElem?, List.getElem?_toArray, List.getElem?_cons_zero, List.getElem?_cons_succ, Option.getD_some]
            refine wpL_take hOps hS (v := ?vOp413) rfl (fun _ _ _ h => h) (yl rfl ?yOp413) ?_
            case yOp413 => (intro w hw; go_simp; first | done | rfl)
            simp only [Act.put, Act.eval, List.setIfInBounds_toArray, List.set_cons_zero, List.set_cons_succ, Array.getD_eq_getD_getElem?, List.getElem?_toArray, List.getElem?_cons_zero, List.getElem?_cons_succ, Option.getD_some]
            refine wpL_take hOps hS rfl (fun _ _ _ h => h) (yl_move rfl _ rfl) ?_
            simp only [Act.put, Act.eval, List.setIfInBounds_toArray, List.set_cons_zero, List.set_cons_succ, Array.getD_eq_getD_getElem?, List.getElem?_toArray, List.getElem?_cons_zero, List.getElem?_cons_succ, Option.getD_some]
            refine wpL_take hOps hS rfl (fun _ _ _ h => h) (yl_move rfl _ rfl) ?_
            simp only [Act.put, Act.eval, List.setIfInBounds_toArray, List.set_cons_zero, List.set_cons_succ, Array.getD_eq_getD_getElem?, List.getElem?_toArray, List.getElem?_cons_zero, List.getElem?_cons_succ, Option.getD_some]
            refine wpL_take hOps hS (v := ?vOp421) rfl (fun _ _ _ h => h) (yl rfl ?yOp421) ?_
            case yOp421 => (intro w hw; go_simp; first | done | rfl)
            simp only [Act.put, Act.eval, List.setIfInBounds_toArray, List.set_cons_zero, List.set_cons_succ, Array.getD_eq_getD_getElem?, List.getElem?_toArray, List.getElem?_cons_zero, List.getElem?_cons_succ, Option.getD_some]
            refine wpL_take hOps hS (v := ?vOp424) rfl (fun _ _ _ h => h) (yl rfl ?yOp424) ?_
            case yOp424 => (intro w hw; go_simp; first | done | rfl)
            simp only [Act.put, Act.eval, List.setIfInBounds_toArray, List.set_cons_zero, List.set_cons_succ, Array.getD_eq_getD_getElem?, List.getElem?_toArray, List.getElem?_cons_zero, List.getElem?_cons_succ, Option.getD_some]
            refine wpL_take hOps hS (v := ?vOp426) rfl (fun _ _ _ h => h) (yl rfl ?yOp426) ?_
            case yOp426 => (intro w hw; go_simp; first | done | rfl)
            simp only [Act.put, Act.eval, List.setIfInBounds_toArray, List.set_cons_zero, List.set_cons_succ, Array.getD_eq_getD_getElem?, List.getElem?_toArray, List.getElem?_cons_zero, List.getElem?_cons_succ, Option.getD_some]
            refine wpL_end ?_
            clear hOps hS ops
            go_wp2
            go_roundw
            case rel => exact ⟨j + 1, by omega, by go_num, U, un, hU, by omega, by omega, rheap_shut (H.mask [true, true, true])⟩
            case measure => simp [intOf]; omega
      · go_wp2
        go_ret
        exact ⟨rfl, H.below⟩
    · go_wp2
      go_ret
      exact ⟨rfl, H.below⟩
theorem heapTells_own : ownKnob Try.prog.godebug = none := by kernel_rfl
theorem heapTells_laid : laidOutB Try.prog = true := by kernel_rfl
set_option maxRecDepth 100000 in
theorem heapTells_lifted (os : Os) (started : os.Started) (H : Type) (enc : TypeId × Value → H) :
    ReturnsInHanded {} Try.checked os 3 .any (Rows.heapTellsSpec.pre6 enc Try.prog Try.f3 Rows.heapTellsRow.domain false) (Rows.heapTellsSpec.post enc Try.prog Try.f3 false true false false) := by
  refine returnsInHanded_of_change (C := Try.checked) heapTells_own started (by kernel_rfl) Try.func3
    (ChangeSpec.witness6 (enc := enc) (C := Try.checked) false ⟨#[], #[.int .i64 0, .slice none 0 0], []⟩ 8 (by kernel_rfl) (by kernel_rfl) (by kernel_rfl) (by kernel_rfl)) ?_
  intro W base args ds gs before hval0 hW hcnd _
  have hval : ∀ (j : Nat) t v, Try.f3.params[j]? = some t → args[j]? = some v → Value.okWide Try.prog W .any base t v := hval0
  have hW' := hW
  obtain ⟨p, q, hA0, hV, rfl, hfz, hnd⟩ := hW
  have hA : DataW.TrodAll enc Try.prog W 0 (fun _ => true) true Try.f3.params.toList args.toList ds p := hA0
  rw [Try.params3] at hA hval
  obtain ⟨v0, vs0, d0, ds0, p0, q0, hargs, rfl, rfl, h0, r0⟩ := trodAll_cons hA
  obtain ⟨v1, vs1, d1, ds1, p1, q1, rfl, rfl, rfl, h1, r1⟩ := trodAll_cons r0
  obtain ⟨rfl, rfl, rfl⟩ := trodAll_nil r1
  obtain rfl : args = #[v0, v1] := by cases args; simp_all
  obtain ⟨rfl, rfl⟩ := trodVars_none hV
  have k0 := h0
  have lt0 : ∀ x ∈ p0, x.block < W.heap.size := by obtain ⟨m, hm⟩ := k0; exact DataW.trod_lt m _ _ _ hm
  have k1 := h1
  have lt1 : ∀ x ∈ p1, x.block < W.heap.size := by obtain ⟨m, hm⟩ := k1; exact DataW.trod_lt m _ _ _ hm
  obtain ⟨a0, rfl, rfl, rfl, f0⟩ := open_int Try.underlying3 (hval 0 3 v0 rfl rfl) h0
  obtain ⟨a1_0, a1_1, a1_2, f1, rfl⟩ := open_steps (hval 1 22 v1 rfl rfl) h1
  clear hA0 hval0
  refine (heapTells_walk a0 a1_0 a1_1 a1_2 W f0 f1).mono fun e W' ⟨he, bel⟩ => ?_
  subst he
  exact ⟨_, rfl, _, _, _, [], _, [], hW', trodAll_mk1 (shut_bool Try.underlying4 _), (trodAll_cons_mk (Below.trod heapTells_laid (by kernel_rfl) (of_decide_eq_true (by kernel_rfl)) k0 bel lt0) (trodAll_cons_mk (Below.trod heapTells_laid (by kernel_rfl) (of_decide_eq_true (by kernel_rfl)) k1 bel lt1) trodAll_mk0)), rfl, bel.frame _, fun h => by cases h⟩
theorem heapTells_holds : Rows.HeapTellsSaid :=
  OpenClaim.holds_of_wide 3 Try.f3 rfl rfl rfl rfl rfl rfl rfl ⟨rfl, rfl, rfl, rfl, rfl⟩ rfl rfl rfl rfl rfl (by kernel_rfl) Try.func3 (by kernel_rfl)
    (of_decide_eq_true (by kernel_rfl)) (by unfold Func.isWrapper; first | (rw [if_pos (by decide +kernel)]; kernel_rfl) | (rw [if_neg (by decide +kernel)]; exact ⟨rfl, rfl⟩))
    (fun os started H enc _ => heapTells_lifted os started H enc)
#print axioms heapTells_holds
end Go.Proofs.Ytkbdpidcdmhhgaa
