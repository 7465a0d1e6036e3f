/-
  What has no room in a heap changes nothing: the law answers true for every input, and its arguments read as before.
-/
import Derived.Test.YtkbdpidcdmhhgaaLaw12
namespace Go.Proofs.Ytkbdpidcdmhhgaa
open Go.ChangeShapes Go.WideShapes Go.ChangeAt Go.RowKit Go.Hg
set_option linter.unusedSimpArgs false
set_option linter.unusedVariables false
/-- Ticks that were pushed as themselves. -/
def urow (v : Nat → Int) (n : Nat) : List Thing := (List.range n).map fun j => (v j, (j : Int), v j)
theorem urow_succ (v : Nat → Int) (n : Nat) : urow v (n + 1) = urow v n ++ [(v n, (n : Int), v n)] := by simp [urow, List.range_succ]
theorem urow_length (v : Nat → Int) (n : Nat) : (urow v n).length = n := by simp [urow]
theorem urow_ok (v : Nat → Int) : ∀ n : Nat, RowOK (urow v n) n
  | 0 => RowOK.nil _
  | n + 1 => by rw [urow_succ]; exact (urow_ok v n).push (v n) (v n)
theorem urow_mem {v : Nat → Int} {n : Nat} {u : Thing} (h : u ∈ urow v n) : ∃ j : Nat, j < n ∧ u = (v j, (j : Int), v j) := by
  simp only [urow, List.mem_map, List.mem_range] at h
  obtain ⟨j, hj, rfl⟩ := h
  exact ⟨j, hj, rfl⟩
def OutR (w0 : World) (p : Nat) (most : Int) (k i : Nat) (w : World) : Prop :=
  ∃ L, RowOK L k ∧ L.length + i = k ∧ (∀ u ∈ L, u.1 = u.2.2 ∧ u.1 ≤ 18446744073709551615) ∧ At w0 [heapU p most k L] w
theorem out_pop {L : List Thing} (h0 : 0 < L.length) (hu : ∀ u ∈ L, u.1 = u.2.2 ∧ u.1 ≤ 18446744073709551615) :
    ∃ x, popX L 18446744073709551615 = x ∧ popT L 18446744073709551615 = x ∧ popB L 18446744073709551615 = true ∧ (popR L 18446744073709551615).length + 1 = L.length := by
  have hf := hu _ (first_mem h0)
  have hb := popB_true h0 hf.2
  obtain ⟨h1, h2, h3, _, _⟩ := pop_true hb
  refine ⟨_, rfl, by rw [h1, h2]; exact hf.1, hb, ?_⟩
  rw [h3, List.length_eraseIdx, if_pos (fk_lt h0)]; omega
set_option maxRecDepth 10000 in
set_option maxHeartbeats 2000000 in
theorem heapFull_walk (z0 : Int) (a : Option Addr) (len cap : Nat) (w : World) (h0 : (Lit.int .i64 z0).wf = true) (h1 : IntRow .u64 w a len) :
    Calls Try.prog 6 #[.int .i64 z0, .slice a len cap] w fun e w' => e = .returned (.bool true) ∧ Below w.heap.size w w' := by
  obtain ⟨b, off, v, hlen, hcell⟩ := intRow_fn h1
  clear h1
  have H := At.start w
  obtain ⟨x0, hx0, hx0a, hx0b⟩ := low16 z0
  obtain ⟨y, hy⟩ : ∃ y, x0 % 50 = y := ⟨_, rfl⟩
  have hya : 0 ≤ y := by omega
  have hyb : y < 50 := by omega
  go_enter Try.func6, Try.ntmps6
  go_wp2_with fail
  refine (shown_c H).mono ?_; rintro e w' ⟨rfl, H⟩
  go_wp2_with fail
  refine (newU_c H (1 + y)).mono ?_; rintro e w' ⟨p, rfl, H⟩
  rw [show max (1 + y) 1 = 1 + y by omega] at H
  go_wp2_with fail
  go_loopw [7, 8] (fun n i wr => ∃ j k : Nat, j ≤ 100 ∧ k ≤ j ∧ (k : Int) ≤ 1 + y ∧ (k = j ∨ (k : Int) = 1 + y) ∧ k ≤ len ∧ n = .int .i64 k ∧ i = .int .i64 j ∧ At w [heapU p (1 + y) k (urow v k)] wr) (fun _ i _ => 100 - (intOf i).toNat)
  case atStart => exact ⟨0, 0, by omega, by omega, by omega, .inl rfl, by omega, rfl, rfl, H⟩
  case round =>
    clear H hx0 hy
    obtain ⟨j, k, hj, hkj, hk, hkk, hkl, rfl, rfl, H⟩ := hrel
    have hv : ∀ j, j < k → v j ≤ 18446744073709551615 := fun j hj => (bounds_u64 (hcell j (by omega)).2.2).2
    have hlk : (urow v k).length = k := urow_length v k
    by_cases h1 : (j : Int) < len
    · by_cases h2 : (j : Int) < 100
      · obtain ⟨ha, hx, _⟩ := hcell j (by omega)
        subst ha
        have hblt := World.block_lt_of_cell? w _ hx
        by_cases h3 : (j : Int) < 1 + y
        · have hp := Lib.hid (push_room (most := 1 + y) (nx := k) (L := urow v k) (by rw [hlk]; omega) (v j) (v j))
          obtain rfl : k = j := by omega
          clear hcell hkk hv hlk
          go_wp2_with fail
          refine wpM_begin [9, 13, 14] ((At w [heapU p (1 + y) k (urow v k)])) [(0, 2), (1, 2), (2, 2), (3, 2), (4, 1), (5, 2), (6, 2), (7, 2), (8, 1), (9, 0), (10, 2), (11, 2), (12, 2), (13, 0), (14, 0)] rfl (by kernel_rfl) (by kernel_rfl) ((H.drew)) ?_
          intro ops hOps hS
          replace H := H.drew
          refine wpM_free hOps rfl (fun _ _ _ h => h) (yl_move rfl _ rfl) ?_
          simp only [Act.put, Act.eval, List.setIfInBounds_toArray, List.set_cons_zero, List.set_cons_succ, Array.getD_eq_getD_getElem?, List.getElem?_toArray, List.getElem?_cons_zero, List.getElem?_cons_succ, Option.getD_some]
          refine wpM_free hOps rfl (fun _ _ _ h => h) (yl_move rfl _ rfl) ?_
          simp only [Act.put, Act.eval, List.setIfInBounds_toArray, List.set_cons_zero, List.set_cons_succ, Array.getD_eq_getD_getElem?, List.getElem?_toArray, List.getElem?_cons_zero, List.getElem?_cons_succ, Option.getD_some]
          refine wpM_free hOps rfl (fun _ _ _ h => h) (yl_move rfl _ rfl) ?_
          simp only [Act.put, Act.eval, List.setIfInBounds_toArray, List.set_cons_zero, List.set_cons_succ, Array.getD_eq_getD_getElem?, List.getElem?_toArray, List.getElem?_cons_zero, List.getElem?_cons_succ, Option.getD_some]
          refine wpM_free hOps (v := ?vOp12) rfl (fun _ _ _ h => h) (yl rfl ?yOp12) ?_
          case yOp12 => (intro w hw; go_simp; first | done | rfl)
          simp only [Act.put, Act.eval, List.setIfInBounds_toArray, List.set_cons_zero, List.set_cons_succ, Array.getD_eq_getD_getElem?, List.getElem?_toArray, List.getElem?_cons_zero, List.getElem?_cons_succ, Option.getD_some]
          refine wpM_take hOps hS rfl (fun _ _ _ h => h) (yl_get rfl _ _ rfl rfl (by kernel_rfl) (fun w1 hw => (At.below hw).cell hblt |>.trans hx)) ?_
          simp only [Act.put, Act.eval, List.setIfInBounds_toArray, List.set_cons_zero, List.set_cons_succ, Array.getD_eq_getD_getElem?, List.getElem?_toArray, List.getElem?_cons_zero, List.getElem?_cons_succ, Option.getD_some]
          refine wpM_free hOps rfl (fun _ _ _ h => h) (yl_move rfl _ rfl) ?_
          simp only [Act.put, Act.eval, List.setIfInBounds_toArray, List.set_cons_zero, List.set_cons_succ, Array.getD_eq_getD_getElem?, List.getElem?_toArray, List.getElem?_cons_zero, List.getElem?_cons_succ, Option.getD_some]
          refine wpM_free hOps rfl (fun _ _ _ h => h) (yl_move rfl _ rfl) ?_
          simp only [Act.put, Act.eval, List.setIfInBounds_toArray, List.set_cons_zero, List.set_cons_succ, Array.getD_eq_getD_getElem?, List.getElem?_toArray, List.getElem?_cons_zero, List.getElem?_cons_succ, Option.getD_some]
          refine wpM_free hOps (v := ?vOp22) rfl (fun _ _ _ h => h) (yl rfl ?yOp22) ?_
          case yOp22 => (intro w hw; go_simp; first | done | rfl)
          simp only [Act.put, Act.eval, List.setIfInBounds_toArray, List.set_cons_zero, List.set_cons_succ, Array.getD_eq_getD_getElem?, List.getElem?_toArray, List.getElem?_cons_zero, List.getElem?_cons_succ, Option.getD_some]
          refine wpM_take hOps hS rfl (fun _ _ _ h => h) (yl_get rfl _ _ rfl rfl (by kernel_rfl) (fun w1 hw => (At.below hw).cell hblt |>.trans hx)) ?_
          simp only [Act.put, Act.eval, List.setIfInBounds_toArray, List.set_cons_zero, List.set_cons_succ, Array.getD_eq_getD_getElem?, List.getElem?_toArray, List.getElem?_cons_zero, List.getElem?_cons_succ, Option.getD_some]
          refine wpM_next hOps rfl rfl ?_
          intro K hK
          refine wp_call _ _ _ rfl Try.func20 rfl (by kernel_rfl) ?_
          simp only [List.map_toArray, List.map_cons, List.map_nil, Act.eval, Array.getD_eq_getD_getElem?, List.getElem?_toArray, List.getElem?_cons_zero, List.getElem?_cons_succ, Option.getD_some]
          refine (pushU_c H (by omega) (by omega) (by rw [urow_length]; omega) _ _).mono ?_; rintro e w' ⟨rfl, H⟩
          rw [hp.out.1, hp.out.2.1]
          rw [hp.out.2.2.1, hp.out.2.2.2] at H
          refine hK _ _ (.inl (by decide)) ?_
          clear hK K
          simp only [Act.put, Act.eval, List.setIfInBounds_toArray, List.set_cons_zero, List.set_cons_succ, Array.getD_eq_getD_getElem?, List.getElem?_toArray, List.getElem?_cons_zero, List.getElem?_cons_succ, Option.getD_some]
          refine wpM_free hOps rfl (fun _ _ _ h => h) (yl_move rfl _ rfl) ?_
          simp only [Act.put, Act.eval, List.setIfInBounds_toArray, List.set_cons_zero, List.set_cons_succ, Array.getD_eq_getD_getElem?, List.getElem?_toArray, List.getElem?_cons_zero, List.getElem?_cons_succ, Option.getD_some]
          refine wpM_free hOps (v := ?vOp33) rfl (fun _ _ _ h => h) (yl rfl ?yOp33) ?_
          case yOp33 => (intro w hw; go_simp; first | done | rfl)
          simp only [Act.put, Act.eval, List.setIfInBounds_toArray, List.set_cons_zero, List.set_cons_succ, Array.getD_eq_getD_getElem?, List.getElem?_toArray, List.getElem?_cons_zero, List.getElem?_cons_succ, Option.getD_some]
          refine wpM_free hOps (v := ?vOp35) rfl (fun _ _ _ h => h) (yl rfl ?yOp35) ?_
          case yOp35 => (intro w hw; go_simp; first | done | rfl)
          simp only [Act.put, Act.eval, List.setIfInBounds_toArray, List.set_cons_zero, List.set_cons_succ, Array.getD_eq_getD_getElem?, List.getElem?_toArray, List.getElem?_cons_zero, List.getElem?_cons_succ, Option.getD_some]
          refine wpM_next hOps rfl rfl ?_
          intro K hK
          refine wp_run rfl ?_
          refine hK _ _ (.inl (by decide)) ?_
          clear hK K
          simp only [Act.put, Act.eval, List.setIfInBounds_toArray, List.set_cons_zero, List.set_cons_succ, Array.getD_eq_getD_getElem?, List.getElem?_toArray, List.getElem?_cons_zero, List.getElem?_cons_succ, Option.getD_some]
          refine wpM_next hOps rfl rfl ?_
          intro K hK
          refine wp_run rfl ?_
          refine hK _ _ (.inl (by decide)) ?_
          clear hK K
          simp only [Act.put, Act.eval, List.setIfInBounds_toArray, List.set_cons_zero, List.set_cons_succ, Array.getD_eq_getD_getElem?, List.getElem?_toArray, List.getElem?_cons_zero, List.getElem?_cons_succ, Option.getD_some]
          refine wpM_end ?_
          clear hOps hS ops
          go_wp2
          go_roundw
          case rel => exact ⟨k + 1, k + 1, by omega, by omega, by omega, .inl rfl, by omega, by go_num, by go_num, by rw [urow_succ]; exact H⟩
          case measure => simp [intOf]; omega
        · have hp := Lib.hid (push_full (most := 1 + y) (nx := k) (L := urow v k) (by rw [hlk]; omega) (v j) (v j))
          have hk1 : (k : Int) = 1 + y := by omega
          have Hk1 := Lib.hid hk1
          clear hcell hkk hv hlk hk1
          go_wp2_with fail
          refine wpM_begin [9, 13, 14] ((At w [heapU p (1 + y) k (urow v k)])) [(0, 2), (1, 2), (2, 2), (3, 2), (4, 1), (5, 2), (6, 2), (7, 2), (8, 1), (9, 0), (10, 2), (11, 2), (12, 2), (13, 0), (14, 0)] rfl (by kernel_rfl) (by kernel_rfl) ((H.drew)) ?_
          intro ops hOps hS
          replace H := H.drew
          refine wpM_free hOps rfl (fun _ _ _ h => h) (yl_move rfl _ rfl) ?_
          simp only [Act.put, Act.eval, List.setIfInBounds_toArray, List.set_cons_zero, List.set_cons_succ, Array.getD_eq_getD_getElem?, List.getElem?_toArray, List.getElem?_cons_zero, List.getElem?_cons_succ, Option.getD_some]
          refine wpM_free hOps rfl (fun _ _ _ h => h) (yl_move rfl _ rfl) ?_
          simp only [Act.put, Act.eval, List.setIfInBounds_toArray, List.set_cons_zero, List.set_cons_succ, Array.getD_eq_getD_getElem?, List.getElem?_toArray, List.getElem?_cons_zero, List.getElem?_cons_succ, Option.getD_some]
          refine wpM_free hOps rfl (fun _ _ _ h => h) (yl_move rfl _ rfl) ?_
          simp only [Act.put, Act.eval, List.setIfInBounds_toArray, List.set_cons_zero, List.set_cons_succ, Array.getD_eq_getD_getElem?, List.getElem?_toArray, List.getElem?_cons_zero, List.getElem?_cons_succ, Option.getD_some]
          refine wpM_free hOps (v := ?vOp57) rfl (fun _ _ _ h => h) (yl rfl ?yOp57) ?_
          case yOp57 => (intro w hw; go_simp; first | done | rfl)
          simp only [Act.put, Act.eval, List.setIfInBounds_toArray, List.set_cons_zero, List.set_cons_succ, Array.getD_eq_getD_getElem?, List.getElem?_toArray, List.getElem?_cons_zero, List.getElem?_cons_succ, Option.getD_some]
          refine wpM_take hOps hS rfl (fun _ _ _ h => h) (yl_get rfl _ _ rfl rfl (by kernel_rfl) (fun w1 hw => (At.below hw).cell hblt |>.trans hx)) ?_
          simp only [Act.put, Act.eval, List.setIfInBounds_toArray, List.set_cons_zero, List.set_cons_succ, Array.getD_eq_getD_getElem?, List.getElem?_toArray, List.getElem?_cons_zero, List.getElem?_cons_succ, Option.getD_some]
          refine wpM_free hOps rfl (fun _ _ _ h => h) (yl_move rfl _ rfl) ?_
          simp only [Act.put, Act.eval, List.setIfInBounds_toArray, List.set_cons_zero, List.set_cons_succ, Array.getD_eq_getD_getElem?, List.getElem?_toArray, List.getElem?_cons_zero, List.getElem?_cons_succ, Option.getD_some]
          refine wpM_free hOps rfl (fun _ _ _ h => h) (yl_move rfl _ rfl) ?_
          simp only [Act.put, Act.eval, List.setIfInBounds_toArray, List.set_cons_zero, List.set_cons_succ, Array.getD_eq_getD_getElem?, List.getElem?_toArray, List.getElem?_cons_zero, List.getElem?_cons_succ, Option.getD_some]
          refine wpM_free hOps (v := ?vOp67) rfl (fun _ _ _ h => h) (yl rfl ?yOp67) ?_
          case yOp67 => (intro w hw; go_simp; first | done | rfl)
          simp only [Act.put, Act.eval, List.setIfInBounds_toArray, List.set_cons_zero, List.set_cons_succ, Array.getD_eq_getD_getElem?, List.getElem?_toArray, List.getElem?_cons_zero, List.getElem?_cons_succ, Option.getD_some]
          refine wpM_take hOps hS rfl (fun _ _ _ h => h) (yl_get rfl _ _ rfl rfl (by kernel_rfl) (fun w1 hw => (At.below hw).cell hblt |>.trans hx)) ?_
          simp only [Act.put, Act.eval, List.setIfInBounds_toArray, List.set_cons_zero, List.set_cons_succ, Array.getD_eq_getD_getElem?, List.getElem?_toArray, List.getElem?_cons_zero, List.getElem?_cons_succ, Option.getD_some]
          refine wpM_next hOps rfl rfl ?_
          intro K hK
          refine wp_call _ _ _ rfl Try.func20 rfl (by kernel_rfl) ?_
          simp only [List.map_toArray, List.map_cons, List.map_nil, Act.eval, Array.getD_eq_getD_getElem?, List.getElem?_toArray, List.getElem?_cons_zero, List.getElem?_cons_succ, Option.getD_some]
          refine (pushU_c H (by omega) (by omega) (by rw [urow_length]; omega) _ _).mono ?_; rintro e w' ⟨rfl, H⟩
          rw [hp.out.1, hp.out.2.1]
          rw [hp.out.2.2.1, hp.out.2.2.2] at H
          refine hK _ _ (.inl (by decide)) ?_
          clear hK K
          simp only [Act.put, Act.eval, List.setIfInBounds_toArray, List.set_cons_zero, List.set_cons_succ, Array.getD_eq_getD_getElem?, List.getElem?_toArray, List.getElem?_cons_zero, List.getElem?_cons_succ, Option.getD_some]
          refine wpM_free hOps rfl (fun _ _ _ h => h) (yl_move rfl _ rfl) ?_
          simp only [Act.put, Act.eval, List.setIfInBounds_toArray, List.set_cons_zero, List.set_cons_succ, Array.getD_eq_getD_getElem?, List.getElem?_toArray, List.getElem?_cons_zero, List.getElem?_cons_succ, Option.getD_some]
          refine wpM_free hOps (v := ?vOp78) rfl (fun _ _ _ h => h) (yl rfl ?yOp78) ?_
          case yOp78 => (intro w hw; go_simp; first | done | rfl)
          simp only [Act.put, Act.eval, List.setIfInBounds_toArray, List.set_cons_zero, List.set_cons_succ, Array.getD_eq_getD_getElem?, List.getElem?_toArray, List.getElem?_cons_zero, List.getElem?_cons_succ, Option.getD_some]
          refine wpM_free hOps (v := ?vOp80) rfl (fun _ _ _ h => h) (yl rfl ?yOp80) ?_
          case yOp80 => (intro w hw; go_simp; first | done | rfl)
          simp only [Act.put, Act.eval, List.setIfInBounds_toArray, List.set_cons_zero, List.set_cons_succ, Array.getD_eq_getD_getElem?, List.getElem?_toArray, List.getElem?_cons_zero, List.getElem?_cons_succ, Option.getD_some]
          refine wpM_next hOps rfl rfl ?_
          intro K hK
          refine wp_run rfl ?_
          refine hK _ _ (.inl (by decide)) ?_
          clear hK K
          simp only [Act.put, Act.eval, List.setIfInBounds_toArray, List.set_cons_zero, List.set_cons_succ, Array.getD_eq_getD_getElem?, List.getElem?_toArray, List.getElem?_cons_zero, List.getElem?_cons_succ, Option.getD_some]
          refine wpM_next hOps rfl rfl ?_
          intro K hK
          refine wp_run rfl ?_
          refine hK _ _ (.inl (by decide)) ?_
          clear hK K
          simp only [Act.put, Act.eval, List.setIfInBounds_toArray, List.set_cons_zero, List.set_cons_succ, Array.getD_eq_getD_getElem?, List.getElem?_toArray, List.getElem?_cons_zero, List.getElem?_cons_succ, Option.getD_some]
          refine wpM_end ?_
          clear hOps hS ops
          go_wp2
          go_roundw
          case rel => exact ⟨j + 1, k, by omega, by omega, by omega, .inr Hk1.out, by omega, rfl, by go_num, H⟩
          case measure => simp [intOf]; omega
      · clear hcell
        have hR := urow_ok v k
        have hL0 : (urow v k).length = k := urow_length v k
        go_wp2_with fail
        refine (lenU_c H).mono ?_; rintro e w' ⟨rfl, rfl⟩
        rw [hL0]
        go_wp2_with fail
        go_loopw [11] (fun i wr => ∃ q : Nat, q ≤ k ∧ i = .int .i64 q ∧ OutR w p (1 + y) k q wr) (fun i _ => k - (intOf i).toNat)
        case atStart => exact ⟨0, by omega, rfl, _, hR, by rw [hL0]; omega, fun u h => by
          obtain ⟨q, hq, rfl⟩ := urow_mem h
          exact ⟨rfl, hv q (by omega)⟩, H⟩
        case round =>
          clear H hR hL0
          obtain ⟨q, hq, rfl, L, hR, hl, hu, H⟩ := hrel
          by_cases hlt : (q : Int) < k
          · obtain ⟨x, h1, h2, h3, h4⟩ := out_pop (by omega) hu
            have HU := Lib.hid hu
            have HP := Lib.hid (And.intro h1 (And.intro h2 h3))
            have H4 := Lib.hid h4
            clear hu h1 h2 h3 h4
            go_wp2_with fail
            refine (popU_c H hR (by omega) _).mono ?_; rintro e w' ⟨rfl, H⟩
            rw [HP.out.1, HP.out.2.1, HP.out.2.2]
            go_wp2
            go_roundw
            case rel => exact ⟨q + 1, by omega, by go_num, _, hR.popR _, by have := H4.out; omega, fun u h => HU.out u (popR_sub h), H⟩
            case measure => simp [intOf]; omega
          · have hL : L = [] := List.length_eq_zero_iff.1 (by omega)
            subst hL
            go_wp2_with fail
            refine (lenU_c H).mono ?_; rintro e w' ⟨rfl, rfl⟩
            go_wp2
            go_ret
            exact ⟨rfl, H.below⟩
    · clear hcell
      have hR := urow_ok v k
      have hL0 : (urow v k).length = k := urow_length v k
      go_wp2_with fail
      refine (lenU_c H).mono ?_; rintro e w' ⟨rfl, rfl⟩
      rw [hL0]
      go_wp2_with fail
      go_loopw [11] (fun i wr => ∃ q : Nat, q ≤ k ∧ i = .int .i64 q ∧ OutR w p (1 + y) k q wr) (fun i _ => k - (intOf i).toNat)
      case atStart => exact ⟨0, by omega, rfl, _, hR, by rw [hL0]; omega, fun u h => by
        obtain ⟨q, hq, rfl⟩ := urow_mem h
        exact ⟨rfl, hv q (by omega)⟩, H⟩
      case round =>
        clear H hR hL0
        obtain ⟨q, hq, rfl, L, hR, hl, hu, H⟩ := hrel
        by_cases hlt : (q : Int) < k
        · obtain ⟨x, h1, h2, h3, h4⟩ := out_pop (by omega) hu
          have HU := Lib.hid hu
          have HP := Lib.hid (And.intro h1 (And.intro h2 h3))
          have H4 := Lib.hid h4
          clear hu h1 h2 h3 h4
          go_wp2_with fail
          refine (popU_c H hR (by omega) _).mono ?_; rintro e w' ⟨rfl, H⟩
          rw [HP.out.1, HP.out.2.1, HP.out.2.2]
          go_wp2
          go_roundw
          case rel => exact ⟨q + 1, by omega, by go_num, _, hR.popR _, by have := H4.out; omega, fun u h => HU.out u (popR_sub h), H⟩
          case measure => simp [intOf]; omega
        · have hL : L = [] := List.length_eq_zero_iff.1 (by omega)
          subst hL
          go_wp2_with fail
          refine (lenU_c H).mono ?_; rintro e w' ⟨rfl, rfl⟩
          go_wp2
          go_ret
          exact ⟨rfl, H.below⟩
theorem heapFull_own : ownKnob Try.prog.godebug = none := by kernel_rfl
theorem heapFull_laid : laidOutB Try.prog = true := by kernel_rfl
set_option maxRecDepth 100000 in
theorem heapFull_lifted (os : Os) (started : os.Started) (H : Type) (enc : TypeId × Value → H) :
    ReturnsInHanded {} Try.checked os 6 .any (Rows.heapFullSpec.pre6 enc Try.prog Try.f6 Rows.heapFullRow.domain false) (Rows.heapFullSpec.post enc Try.prog Try.f6 false true false false) := by
  refine returnsInHanded_of_change (C := Try.checked) heapFull_own started (by kernel_rfl) Try.func6
    (ChangeSpec.witness6 (enc := enc) (C := Try.checked) false ⟨#[], #[.int .i64 0, .slice none 0 0], []⟩ 8 (by kernel_rfl) (by kernel_rfl) (by kernel_rfl) (by kernel_rfl)) ?_
  intro W base args ds gs before hval0 hW hcnd _
  have hval : ∀ (j : Nat) t v, Try.f6.params[j]? = some t → args[j]? = some v → Value.okWide Try.prog W .any base t v := hval0
  have hW' := hW
  obtain ⟨p, q, hA0, hV, rfl, hfz, hnd⟩ := hW
  have hA : DataW.TrodAll enc Try.prog W 0 (fun _ => true) true Try.f6.params.toList args.toList ds p := hA0
  rw [Try.params6] at hA hval
  obtain ⟨v0, vs0, d0, ds0, p0, q0, hargs, rfl, rfl, h0, r0⟩ := trodAll_cons hA
  obtain ⟨v1, vs1, d1, ds1, p1, q1, rfl, rfl, rfl, h1, r1⟩ := trodAll_cons r0
  obtain ⟨rfl, rfl, rfl⟩ := trodAll_nil r1
  obtain rfl : args = #[v0, v1] := by cases args; simp_all
  obtain ⟨rfl, rfl⟩ := trodVars_none hV
  have k0 := h0
  have lt0 : ∀ x ∈ p0, x.block < W.heap.size := by obtain ⟨m, hm⟩ := k0; exact DataW.trod_lt m _ _ _ hm
  have k1 := h1
  have lt1 : ∀ x ∈ p1, x.block < W.heap.size := by obtain ⟨m, hm⟩ := k1; exact DataW.trod_lt m _ _ _ hm
  obtain ⟨a0, rfl, rfl, rfl, f0⟩ := open_int Try.underlying3 (hval 0 3 v0 rfl rfl) h0
  obtain ⟨a1, len1, cap1, rfl⟩ := okWide_slice Try.underlying45 (hval 1 45 v1 rfl rfl)
  have f1 : IntRow .u64 W a1 len1 := by
    obtain ⟨fuel, hf⟩ := h1
    rcases open_ints Try.underlying45 Try.underlying28 (by kernel_rfl) hf with ⟨hcs, _⟩ | ⟨x, l, c, zs, hcs, _, hl, hm, hz, _, hcell, hwz⟩
    · simp [Value.cells] at hcs
      obtain ⟨rfl, rfl, rfl⟩ := hcs
      exact intRow_of (cap := 0) (zs := []) (.inl ⟨rfl, rfl⟩)
    · simp [Value.cells] at hcs
      obtain ⟨rfl, rfl, rfl⟩ := hcs
      exact intRow_of (.inr ⟨_, rfl, hl, hm, by simpa using hz, hcell, hwz⟩)
  clear hA0 hval0
  refine (heapFull_walk a0 a1 len1 cap1 W f0 f1).mono fun e W' ⟨he, bel⟩ => ?_
  subst he
  exact ⟨_, rfl, _, _, _, [], _, [], hW', trodAll_mk1 (shut_bool Try.underlying4 _), (trodAll_cons_mk (Below.trod heapFull_laid (by kernel_rfl) (of_decide_eq_true (by kernel_rfl)) k0 bel lt0) (trodAll_cons_mk (Below.trod heapFull_laid (by kernel_rfl) (of_decide_eq_true (by kernel_rfl)) k1 bel lt1) trodAll_mk0)), rfl, bel.frame _, fun h => by cases h⟩
theorem heapFull_holds : Rows.HeapFullSaid :=
  OpenClaim.holds_of_wide 6 Try.f6 rfl rfl rfl rfl rfl rfl rfl ⟨rfl, rfl, rfl, rfl, rfl⟩ rfl rfl rfl rfl rfl (by kernel_rfl) Try.func6 (by kernel_rfl)
    (of_decide_eq_true (by kernel_rfl)) (by unfold Func.isWrapper; first | (rw [if_pos (by decide +kernel)]; kernel_rfl) | (rw [if_neg (by decide +kernel)]; exact ⟨rfl, rfl⟩))
    (fun os started H enc _ => heapFull_lifted os started H enc)
#print axioms heapFull_holds
end Go.Proofs.Ytkbdpidcdmhhgaa
