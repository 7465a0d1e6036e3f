/-
  No node stands in a route twice; all are among the nodes; the last one is the last: the law answers true for every input, and its arguments read as before.
-/
import Derived.Test.YtddddlphnoicpaaRows
import Derived.Test.YtddddlphnoicpaaRouteP
namespace Go.Proofs.Ytddddlphnoicpaa
open Go.ChangeShapes Go.WideShapes Go.ChangeAt Go.RowKit Go.Hg
set_option linter.unusedSimpArgs false
set_option linter.unusedVariables false
set_option maxRecDepth 10000 in
set_option maxHeartbeats 2000000 in
theorem routeOnce_walk (a : Option Addr) (len cap : Nat) (a2 : Option Addr) (len2 cap2 : Nat) (hops last : Int) (w : World) (h1 : IntRow .u64 w a len ∧ len ≤ cap) (h2 : IntRow .u16 w a2 len2 ∧ len2 ≤ cap2) (h3 : (Lit.int .i64 hops).wf = true) (h4 : (Lit.int .u16 last).wf = true) :
    Calls Try.prog 4 #[.slice a len cap, .slice a2 len2 cap2, .int .i64 hops, .int .u16 last] w fun e w' => e = .returned (.bool true) ∧ Below w.heap.size w w' := by
  obtain ⟨h1, hcap⟩ := h1
  obtain ⟨h2, hcap2⟩ := h2
  obtain ⟨b, off, v, hlen, hcell⟩ := intRow_fn h1
  obtain ⟨b2, off2, v2, hlen2, hcell2⟩ := intRow_fn h2
  clear h1 h2
  have H := At.start w
  obtain ⟨m, hm⟩ : ∃ m : Nat, m = min len 20 := ⟨_, rfl⟩
  obtain ⟨n, hn⟩ : ∃ n : Nat, n = min len2 40 := ⟨_, rfl⟩
  have hmin : (if (20 : Int) < (len : Int) then (20 : Int) else (len : Int)) = (m : Int) := by split <;> omega
  have hmin2 : (if (40 : Int) < (len2 : Int) then (40 : Int) else (len2 : Int)) = (n : Int) := by split <;> omega
  have hc1 : (m : Int) ≤ cap := by omega
  have hc2 : (n : Int) ≤ cap2 := by omega
  have hw := Lib.hid (fun (F : List SP) => sees_arg (F := F) (m := m) (by omega) hcap hcell)
  have hv := Lib.hid (fun (F : List SP) => sees_arg (F := F) (m := n) (by omega) hcap2 hcell2)
  have hwb := Lib.hid (words_bound2 (v := v) (k := m) (fun i hi => bounds_u64 (hcell i hi).2.2) (by omega))
  have hnl : n ≤ 40 := by omega
  have hml : m ≤ 20 := by omega
  have hxl : ((List.range n).map v2).length = n := by simp
  have hwl : ((List.range m).map v).length = m := by simp
  obtain ⟨ws, hws⟩ : ∃ ws, ws = (List.range m).map v := ⟨_, rfl⟩
  obtain ⟨xs, hxs⟩ : ∃ xs, xs = (List.range n).map v2 := ⟨_, rfl⟩
  rw [← hws] at hw hwb hwl
  rw [← hxs] at hv hxl
  clear hcell hcell2 hm hn hcap hcap2 hws hxs
  go_enter Try.func4, Try.ntmps4
  go_wp2_with fail
  refine (shown_c H).mono ?_; rintro e w' ⟨rfl, H⟩
  go_wp2_with fail
  clear hmin hmin2
  refine (draw_c H (hw.out _) (hv.out _) hwb.out (by omega) hops last).mono ?_; rintro e w' ⟨ra, rc, rfl, H⟩
  by_cases hz : wrongZ ws.length xs hops last = 0
  · obtain ⟨r1, r2, r3, r4⟩ := drawR_ok hz
    have hN := drawN_ok hz
    obtain ⟨b1, b2, _⟩ := wrong_ok hz
    obtain ⟨R, hR⟩ : ∃ R, R = drawR ws xs hops last := ⟨_, rfl⟩
    rw [← hR] at r1 r2 r3 r4 H ⊢
    rw [hz, hN]
    clear hR hz hN
    obtain ⟨g, o, rfl⟩ := lrow_place H 0 rfl (by omega)
    obtain ⟨q, rfl⟩ : ∃ q : Nat, hops = (q : Int) + 1 := ⟨(hops - 1).toNat, by omega⟩
    rw [show ((q : Int) + 1 - 1).toNat = q by omega] at r4
    have r5 : R.length = q + 1 := by omega
    have R2 := Lib.hid r2
    have R3 := Lib.hid r3
    have R4 := Lib.hid r4
    obtain ⟨xa, xc, xb, xo, hxe, hxc, hxa, hxcell⟩ := hv.out [lrow 25 1 (ic .u16) (.slice (some ⟨g, o, none⟩) R.length rc) R]
    clear hxl
    obtain ⟨rfl, rfl, rfl⟩ : a2 = xa ∧ n = xs.length ∧ cap2 = xc := by cases hxe; exact ⟨rfl, rfl, rfl⟩
    have hrc := Lib.hid (fun (w' : World) (h : At w [lrow 25 1 (ic .u16) (.slice (some ⟨g, o, none⟩) R.length rc) R] w') (i : Nat) (hi : i < R.length) => show w'.cell? ⟨g, o + i, none⟩ = some (.int .u16 (gz R i)) by simpa using lrow_cell el_a (j := 0) h 0 rfl (gz_get hi) rfl)
    have R5 := Lib.hid r5
    have hRl5 : R.length ≤ 5 := by omega
    clear r1 r2 r3 r4 hxe hw hv hwb r5 hwl
    go_wp2_with fail
    go_loopw [13] (fun i wr => ∃ j : Nat, j ≤ R.length ∧ i = .int .i64 j ∧ At w [lrow 25 1 (ic .u16) (.slice (some ⟨g, o, none⟩) R.length rc) R] wr) (fun i _ => R.length - (intOf i).toNat)
    case atStart => exact ⟨0, by omega, rfl, H⟩
    case round =>
      clear H
      obtain ⟨j, hj, rfl, H⟩ := hrel
      by_cases hlt : (j : Int) < R.length
      · have hjl : j < R.length := by omega
        go_wp2_with fail
        go_loopw [14, 15] (fun t i wr => ∃ (k : Nat) (th : Bool), k ≤ xs.length ∧ i = .int .i64 k ∧ t = .bool th ∧ (th = true ∨ ∀ i, i < k → gz xs i ≠ gz R j) ∧ At w [lrow 25 1 (ic .u16) (.slice (some ⟨g, o, none⟩) R.length rc) R] wr) (fun _ i _ => xs.length - (intOf i).toNat)
        case atStart => exact ⟨0, false, by omega, rfl, rfl, .inr fun i h => absurd h (by omega), H⟩
        case round =>
          clear H
          obtain ⟨k, th, hk, rfl, rfl, hth, H⟩ := hrel
          by_cases hkl : (k : Int) < xs.length
          · obtain rfl := hxa (by omega)
            cases th with
            | true =>
              go_wp2_with fail
              refine wpL_begin 12 (At w [lrow 25 1 (ic .u16) (.slice (some ⟨g, o, none⟩) R.length rc) R]) [(0, true), (1, true), (2, true), (3, true), (4, true), (5, true), (6, true), (7, true), (8, true), (9, true), (10, true), (11, true), (12, false)] rfl (by kernel_rfl) (by kernel_rfl) ((H.drew)) ?_
              intro ops hOps hS
              replace H := H.drew
              refine wpL_take hOps hS rfl (fun _ _ _ h => h) (yl_move rfl _ rfl) ?_
              simp only [Act.put, Act.eval, List.setIfInBounds_toArray, List.set_cons_zero, List.set_cons_succ, Array.getD_eq_getD_getElem?, List.getElem?_toArray, List.getElem?_cons_zero, List.getElem?_cons_succ, Option.getD_some]
              refine wpL_take hOps hS rfl (fun _ _ _ h => h) (yl_move rfl _ rfl) ?_
              simp only [Act.put, Act.eval, List.setIfInBounds_toArray, List.set_cons_zero, List.set_cons_succ, Array.getD_eq_getD_getElem?, List.getElem?_toArray, List.getElem?_cons_zero, List.getElem?_cons_succ, Option.getD_some]
              refine wpL_take hOps hS rfl (fun _ _ _ h => h) (yn rfl) ?_
              simp only [Act.put, Act.eval, List.setIfInBounds_toArray, List.set_cons_zero, List.set_cons_succ, Array.getD_eq_getD_getElem?, List.getElem?_toArray, List.getElem?_cons_zero, List.getElem?_cons_succ, Option.getD_some]
              refine wpL_take hOps hS rfl (fun _ _ _ h => h) (yn rfl) ?_
              simp only [Act.put, Act.eval, List.setIfInBounds_toArray, List.set_cons_zero, List.set_cons_succ, Array.getD_eq_getD_getElem?, List.getElem?_toArray, List.getElem?_cons_zero, List.getElem?_cons_succ, Option.getD_some]
              refine wpL_take hOps hS rfl (fun _ _ _ h => h) (yn rfl) ?_
              simp only [Act.put, Act.eval, List.setIfInBounds_toArray, List.set_cons_zero, List.set_cons_succ, Array.getD_eq_getD_getElem?, List.getElem?_toArray, List.getElem?_cons_zero, List.getElem?_cons_succ, Option.getD_some]
              refine wpL_take hOps hS rfl (fun _ _ _ h => h) (yn rfl) ?_
              simp only [Act.put, Act.eval, List.setIfInBounds_toArray, List.set_cons_zero, List.set_cons_succ, Array.getD_eq_getD_getElem?, List.getElem?_toArray, List.getElem?_cons_zero, List.getElem?_cons_succ, Option.getD_some]
              refine wpL_take hOps hS rfl (fun _ _ _ h => h) (yn rfl) ?_
              simp only [Act.put, Act.eval, List.setIfInBounds_toArray, List.set_cons_zero, List.set_cons_succ, Array.getD_eq_getD_getElem?, List.getElem?_toArray, List.getElem?_cons_zero, List.getElem?_cons_succ, Option.getD_some]
              refine wpL_take hOps hS rfl (fun _ _ _ h => h) (yn rfl) ?_
              simp only [Act.put, Act.eval, List.setIfInBounds_toArray, List.set_cons_zero, List.set_cons_succ, Array.getD_eq_getD_getElem?, List.getElem?_toArray, List.getElem?_cons_zero, List.getElem?_cons_succ, Option.getD_some]
              refine wpL_take hOps hS rfl (fun _ _ _ h => h) (yn rfl) ?_
              simp only [Act.put, Act.eval, List.setIfInBounds_toArray, List.set_cons_zero, List.set_cons_succ, Array.getD_eq_getD_getElem?, List.getElem?_toArray, List.getElem?_cons_zero, List.getElem?_cons_succ, Option.getD_some]
              refine wpL_take hOps hS rfl (fun _ _ _ h => h) (yn rfl) ?_
              simp only [Act.put, Act.eval, List.setIfInBounds_toArray, List.set_cons_zero, List.set_cons_succ, Array.getD_eq_getD_getElem?, List.getElem?_toArray, List.getElem?_cons_zero, List.getElem?_cons_succ, Option.getD_some]
              refine wpL_take hOps hS rfl (fun _ _ _ h => h) (yn rfl) ?_
              simp only [Act.put, Act.eval, List.setIfInBounds_toArray, List.set_cons_zero, List.set_cons_succ, Array.getD_eq_getD_getElem?, List.getElem?_toArray, List.getElem?_cons_zero, List.getElem?_cons_succ, Option.getD_some]
              refine wpL_take hOps hS (v := ?vOp27) rfl (fun _ _ _ h => h) (yl rfl ?yOp27) ?_
              case yOp27 => (intro w hw; go_simp; first | done | rfl)
              simp only [Act.put, Act.eval, List.setIfInBounds_toArray, List.set_cons_zero, List.set_cons_succ, Array.getD_eq_getD_getElem?, List.getElem?_toArray, List.getElem?_cons_zero, List.getElem?_cons_succ, Option.getD_some]
              refine wpL_last hOps rfl rfl ?_
              intro K hK
              refine wp_run rfl ?_
              refine hK _ _ ?_
              clear hK K hOps hS ops
              simp only [Act.put, Act.eval, List.setIfInBounds_toArray, List.set_cons_zero, List.set_cons_succ, Array.getD_eq_getD_getElem?, List.getElem?_toArray, List.getElem?_cons_zero, List.getElem?_cons_succ, Option.getD_some]
              go_wp2
              first
                | (refine ⟨?_, ?measure⟩; iterate 60 (try apply Exists.intro); refine ⟨?rel, rfl⟩)
                | refine ⟨?rel, ?measure⟩
              case rel => exact ⟨k + 1, true, by omega, by go_num, rfl, .inl rfl, H⟩
              case measure => simp [intOf]; omega
            | false =>
              have hth2 := Lib.hid (hth.resolve_left (by simp))
              clear hth
              go_wp2_with fail
              refine wpL_begin 12 (At w [lrow 25 1 (ic .u16) (.slice (some ⟨g, o, none⟩) R.length rc) R]) [(0, true), (1, true), (2, true), (3, true), (4, true), (5, true), (6, true), (7, true), (8, true), (9, true), (10, true), (11, true), (12, false)] rfl (by kernel_rfl) (by kernel_rfl) ((H.drew)) ?_
              intro ops hOps hS
              replace H := H.drew
              have hkx : (k : Int) < xs.length := by omega
              refine wpL_take hOps hS rfl (fun _ _ _ h => h) (yl_move rfl _ rfl) ?_
              simp only [Act.put, Act.eval, List.setIfInBounds_toArray, List.set_cons_zero, List.set_cons_succ, Array.getD_eq_getD_getElem?, List.getElem?_toArray, List.getElem?_cons_zero, List.getElem?_cons_succ, Option.getD_some]
              refine wpL_take hOps hS rfl (fun _ _ _ h => h) (yl_move rfl _ rfl) ?_
              simp only [Act.put, Act.eval, List.setIfInBounds_toArray, List.set_cons_zero, List.set_cons_succ, Array.getD_eq_getD_getElem?, List.getElem?_toArray, List.getElem?_cons_zero, List.getElem?_cons_succ, Option.getD_some]
              refine wpL_take hOps hS rfl (fun _ _ _ h => h) (yl_move rfl _ rfl) ?_
              simp only [Act.put, Act.eval, List.setIfInBounds_toArray, List.set_cons_zero, List.set_cons_succ, Array.getD_eq_getD_getElem?, List.getElem?_toArray, List.getElem?_cons_zero, List.getElem?_cons_succ, Option.getD_some]
              refine wpL_take hOps hS rfl (fun _ _ _ h => h) (yl_move rfl _ rfl) ?_
              simp only [Act.put, Act.eval, List.setIfInBounds_toArray, List.set_cons_zero, List.set_cons_succ, Array.getD_eq_getD_getElem?, List.getElem?_toArray, List.getElem?_cons_zero, List.getElem?_cons_succ, Option.getD_some]
              refine wpL_take hOps hS (v := ?vOp46) rfl (fun _ _ _ h => h) (yl rfl ?yOp46) ?_
              case yOp46 => (intro w hw; go_simp; first | done | rfl)
              simp only [Act.put, Act.eval, List.setIfInBounds_toArray, List.set_cons_zero, List.set_cons_succ, Array.getD_eq_getD_getElem?, List.getElem?_toArray, List.getElem?_cons_zero, List.getElem?_cons_succ, Option.getD_some]
              refine wpL_take hOps hS rfl (fun _ _ _ h => h) (yl_get rfl _ _ rfl rfl (by kernel_rfl) (fun w hw => hxcell w hw k (by omega))) ?_
              simp only [Act.put, Act.eval, List.setIfInBounds_toArray, List.set_cons_zero, List.set_cons_succ, Array.getD_eq_getD_getElem?, List.getElem?_toArray, List.getElem?_cons_zero, List.getElem?_cons_succ, Option.getD_some]
              refine wpL_take hOps hS rfl (fun _ _ _ h => h) (yl_move rfl _ rfl) ?_
              simp only [Act.put, Act.eval, List.setIfInBounds_toArray, List.set_cons_zero, List.set_cons_succ, Array.getD_eq_getD_getElem?, List.getElem?_toArray, List.getElem?_cons_zero, List.getElem?_cons_succ, Option.getD_some]
              refine wpL_take hOps hS rfl (fun _ _ _ h => h) (yl_move rfl _ rfl) ?_
              simp only [Act.put, Act.eval, List.setIfInBounds_toArray, List.set_cons_zero, List.set_cons_succ, Array.getD_eq_getD_getElem?, List.getElem?_toArray, List.getElem?_cons_zero, List.getElem?_cons_succ, Option.getD_some]
              refine wpL_take hOps hS (v := ?vOp56) rfl (fun _ _ _ h => h) (yl rfl ?yOp56) ?_
              case yOp56 => (intro w hw; go_simp; first | done | rfl)
              simp only [Act.put, Act.eval, List.setIfInBounds_toArray, List.set_cons_zero, List.set_cons_succ, Array.getD_eq_getD_getElem?, List.getElem?_toArray, List.getElem?_cons_zero, List.getElem?_cons_succ, Option.getD_some]
              refine wpL_take hOps hS rfl (fun _ _ _ h => h) (yl_get rfl _ _ rfl rfl (by kernel_rfl) (fun w hw => hrc.out w hw j hjl)) ?_
              simp only [Act.put, Act.eval, List.setIfInBounds_toArray, List.set_cons_zero, List.set_cons_succ, Array.getD_eq_getD_getElem?, List.getElem?_toArray, List.getElem?_cons_zero, List.getElem?_cons_succ, Option.getD_some]
              refine wpL_take hOps hS (v := ?vOp60) rfl (fun _ _ _ h => h) (yl rfl ?yOp60) ?_
              case yOp60 => (intro w hw; go_simp; first | done | rfl)
              simp only [Act.put, Act.eval, List.setIfInBounds_toArray, List.set_cons_zero, List.set_cons_succ, Array.getD_eq_getD_getElem?, List.getElem?_toArray, List.getElem?_cons_zero, List.getElem?_cons_succ, Option.getD_some]
              by_cases he : gz xs k = gz R j
              · first | rw [decide_eq_true he] | rw [show (gz xs k == gz R j) = true from by rw [he]; exact beq_self_eq_true _]
                refine wpL_take hOps hS (v := ?vOp62) rfl (fun _ _ _ h => h) (yl rfl ?yOp62) ?_
                case yOp62 => (intro w hw; go_simp; first | done | rfl)
                simp only [Act.put, Act.eval, List.setIfInBounds_toArray, List.set_cons_zero, List.set_cons_succ, Array.getD_eq_getD_getElem?, List.getElem?_toArray, List.getElem?_cons_zero, List.getElem?_cons_succ, Option.getD_some]
                refine wpL_last hOps rfl rfl ?_
                intro K hK
                refine wp_run rfl ?_
                refine hK _ _ ?_
                clear hK K hOps hS ops
                simp only [Act.put, Act.eval, List.setIfInBounds_toArray, List.set_cons_zero, List.set_cons_succ, Array.getD_eq_getD_getElem?, List.getElem?_toArray, List.getElem?_cons_zero, List.getElem?_cons_succ, Option.getD_some]
                go_wp2
                first
                  | (refine ⟨?_, ?measure⟩; iterate 60 (try apply Exists.intro); refine ⟨?rel, rfl⟩)
                  | refine ⟨?rel, ?measure⟩
                case rel => exact ⟨k + 1, true, by omega, by go_num, rfl, .inl rfl, H⟩
                case measure => simp [intOf]; omega
              · first | rw [decide_eq_false he] | rw [show (gz xs k == gz R j) = false from beq_eq_false_iff_ne.2 he]
                refine wpL_take hOps hS (v := ?vOp68) rfl (fun _ _ _ h => h) (yl rfl ?yOp68) ?_
                case yOp68 => (intro w hw; go_simp; first | done | rfl)
                simp only [Act.put, Act.eval, List.setIfInBounds_toArray, List.set_cons_zero, List.set_cons_succ, Array.getD_eq_getD_getElem?, List.getElem?_toArray, List.getElem?_cons_zero, List.getElem?_cons_succ, Option.getD_some]
                refine wpL_last hOps rfl rfl ?_
                intro K hK
                refine wp_run rfl ?_
                refine hK _ _ ?_
                clear hK K hOps hS ops
                simp only [Act.put, Act.eval, List.setIfInBounds_toArray, List.set_cons_zero, List.set_cons_succ, Array.getD_eq_getD_getElem?, List.getElem?_toArray, List.getElem?_cons_zero, List.getElem?_cons_succ, Option.getD_some]
                go_wp2
                first
                  | (refine ⟨?_, ?measure⟩; iterate 60 (try apply Exists.intro); refine ⟨?rel, rfl⟩)
                  | refine ⟨?rel, ?measure⟩
                case rel => exact ⟨k + 1, false, by omega, by go_num, rfl, .inr fun i h => by
                  by_cases e : i = k
                  · subst e; exact he
                  · exact hth2.out i (by omega), H⟩
                case measure => simp [intOf]; omega
          · have hth3 : th = true := by
              rcases hth with h | h
              · exact h
              · obtain ⟨i, hi, e⟩ := mem_gz (R3.out _ (gz_mem hjl))
                exact absurd e (h i (by omega))
            subst hth3
            clear hth
            go_wp2_with fail
            go_loopw [16] (fun i wr => ∃ k : Nat, k ≤ j ∧ i = .int .i64 k ∧ At w [lrow 25 1 (ic .u16) (.slice (some ⟨g, o, none⟩) R.length rc) R] wr) (fun i _ => j - (intOf i).toNat)
            case atStart => exact ⟨0, by omega, rfl, H⟩
            case round =>
              clear H hk hkl
              obtain ⟨k, hk, rfl, H⟩ := hrel
              by_cases hkl : (k : Int) < j
              · have hne := R2.out k j (by omega) hjl
                have hkR : (k : Int) < R.length := by omega
                go_wp2_with fail
                refine wpL_begin 9 (At w [lrow 25 1 (ic .u16) (.slice (some ⟨g, o, none⟩) R.length rc) R]) [(0, true), (1, true), (2, true), (3, true), (4, true), (5, true), (6, true), (7, true), (8, true)] rfl (by kernel_rfl) (by kernel_rfl) ((H.drew)) ?_
                intro ops hOps hS
                replace H := H.drew
                refine wpL_take hOps hS rfl (fun _ _ _ h => h) (yl_move rfl _ rfl) ?_
                simp only [Act.put, Act.eval, List.setIfInBounds_toArray, List.set_cons_zero, List.set_cons_succ, Array.getD_eq_getD_getElem?, List.getElem?_toArray, List.getElem?_cons_zero, List.getElem?_cons_succ, Option.getD_some]
                refine wpL_take hOps hS rfl (fun _ _ _ h => h) (yl_move rfl _ rfl) ?_
                simp only [Act.put, Act.eval, List.setIfInBounds_toArray, List.set_cons_zero, List.set_cons_succ, Array.getD_eq_getD_getElem?, List.getElem?_toArray, List.getElem?_cons_zero, List.getElem?_cons_succ, Option.getD_some]
                refine wpL_take hOps hS (v := ?vOp81) rfl (fun _ _ _ h => h) (yl rfl ?yOp81) ?_
                case yOp81 => (intro w hw; go_simp; first | done | rfl)
                simp only [Act.put, Act.eval, List.setIfInBounds_toArray, List.set_cons_zero, List.set_cons_succ, Array.getD_eq_getD_getElem?, List.getElem?_toArray, List.getElem?_cons_zero, List.getElem?_cons_succ, Option.getD_some]
                refine wpL_take hOps hS rfl (fun _ _ _ h => h) (yl_get rfl _ _ rfl rfl (by kernel_rfl) (fun w hw => hrc.out w hw k (by omega))) ?_
                simp only [Act.put, Act.eval, List.setIfInBounds_toArray, List.set_cons_zero, List.set_cons_succ, Array.getD_eq_getD_getElem?, List.getElem?_toArray, List.getElem?_cons_zero, List.getElem?_cons_succ, Option.getD_some]
                refine wpL_take hOps hS rfl (fun _ _ _ h => h) (yl_move rfl _ rfl) ?_
                simp only [Act.put, Act.eval, List.setIfInBounds_toArray, List.set_cons_zero, List.set_cons_succ, Array.getD_eq_getD_getElem?, List.getElem?_toArray, List.getElem?_cons_zero, List.getElem?_cons_succ, Option.getD_some]
                refine wpL_take hOps hS rfl (fun _ _ _ h => h) (yl_move rfl _ rfl) ?_
                simp only [Act.put, Act.eval, List.setIfInBounds_toArray, List.set_cons_zero, List.set_cons_succ, Array.getD_eq_getD_getElem?, List.getElem?_toArray, List.getElem?_cons_zero, List.getElem?_cons_succ, Option.getD_some]
                refine wpL_take hOps hS (v := ?vOp91) rfl (fun _ _ _ h => h) (yl rfl ?yOp91) ?_
                case yOp91 => (intro w hw; go_simp; first | done | rfl)
                simp only [Act.put, Act.eval, List.setIfInBounds_toArray, List.set_cons_zero, List.set_cons_succ, Array.getD_eq_getD_getElem?, List.getElem?_toArray, List.getElem?_cons_zero, List.getElem?_cons_succ, Option.getD_some]
                refine wpL_take hOps hS rfl (fun _ _ _ h => h) (yl_get rfl _ _ rfl rfl (by kernel_rfl) (fun w hw => hrc.out w hw j hjl)) ?_
                simp only [Act.put, Act.eval, List.setIfInBounds_toArray, List.set_cons_zero, List.set_cons_succ, Array.getD_eq_getD_getElem?, List.getElem?_toArray, List.getElem?_cons_zero, List.getElem?_cons_succ, Option.getD_some]
                refine wpL_take hOps hS (v := ?vOp95) rfl (fun _ _ _ h => h) (yl rfl ?yOp95) ?_
                case yOp95 => (intro w hw; go_simp; first | done | rfl)
                simp only [Act.put, Act.eval, List.setIfInBounds_toArray, List.set_cons_zero, List.set_cons_succ, Array.getD_eq_getD_getElem?, List.getElem?_toArray, List.getElem?_cons_zero, List.getElem?_cons_succ, Option.getD_some]
                first | rw [decide_eq_false hne] | rw [show (gz R k == gz R j) = false from beq_eq_false_iff_ne.2 hne]
                refine wpL_end ?_
                clear hOps hS ops
                go_wp2
                first
                  | (refine ⟨?_, ?measure⟩; iterate 60 (try apply Exists.intro); refine ⟨?rel, rfl⟩)
                  | refine ⟨?rel, ?measure⟩
                case rel => exact ⟨k + 1, by omega, by go_num, H⟩
                case measure => simp [intOf]; omega
              · go_wp2
                first
                  | (refine ⟨?_, ?measure⟩; iterate 60 (try apply Exists.intro); refine ⟨?rel, rfl⟩)
                  | refine ⟨?rel, ?measure⟩
                case rel => exact ⟨j + 1, by omega, by go_num, H⟩
                case measure => simp [intOf]; omega
      · have r5 := R5.out
        have hcq := hrc.out _ H q (by omega)
        rw [R4.out] at hcq
        have hRl2 : (R.length : Int) = (q : Int) + 1 := by omega
        have hq2 : (q : Int) < R.length := by omega
        have hjq : (j : Int) = (q : Int) + 1 := by omega
        have hj3 : j = q + 1 := by omega
        subst hj3
        clear hjq hlt hj hrc r5 hRl5
        have hlt : ¬ ((q : Int) + 1) < R.length := by omega
        go_wp2
        go_ret
        exact ⟨by first | rfl | simp, H.below⟩
  · obtain ⟨hR, hN⟩ := drawR_none hz
    rw [hR, hN]
    obtain ⟨z, hz2⟩ : ∃ z, z = wrongZ ws.length xs hops last := ⟨_, rfl⟩
    rw [← hz2] at hz ⊢
    clear hz2 hR hN
    go_wp2
    go_ret
    exact ⟨by first | rfl | simp, H.below⟩
theorem routeOnce_own : ownKnob Try.prog.godebug = none := by kernel_rfl
theorem routeOnce_laid : laidOutB Try.prog = true := by kernel_rfl
set_option maxRecDepth 100000 in
theorem routeOnce_lifted (os : Os) (started : os.Started) (H : Type) (enc : TypeId × Value → H) :
    ReturnsInHanded {} Try.checked os 4 .any (Rows.routeOnceSpec.pre6 enc Try.prog Try.f4 Rows.routeOnceRow.domain false) (Rows.routeOnceSpec.post enc Try.prog Try.f4 false true false false) := by
  refine returnsInHanded_of_change (C := Try.checked) routeOnce_own started (by kernel_rfl) Try.func4
    (ChangeSpec.witness6 (enc := enc) (C := Try.checked) false ⟨#[], #[.slice none 0 0, .slice none 0 0, .int .i64 0, .int .u16 0], []⟩ 8 (by kernel_rfl) (by kernel_rfl) (by kernel_rfl) (by kernel_rfl)) ?_
  intro W base args ds gs before hval0 hW hcnd _
  have hval : ∀ (j : Nat) t v, Try.f4.params[j]? = some t → args[j]? = some v → Value.okWide Try.prog W .any base t v := hval0
  have hW' := hW
  obtain ⟨p, q, hA0, hV, rfl, hfz, hnd⟩ := hW
  have hA : DataW.TrodAll enc Try.prog W 0 (fun _ => true) true Try.f4.params.toList args.toList ds p := hA0
  rw [Try.params4] at hA hval
  obtain ⟨v0, vs0, d0, ds0, p0, q0, hargs, rfl, rfl, h0, r0⟩ := trodAll_cons hA
  obtain ⟨v1, vs1, d1, ds1, p1, q1, rfl, rfl, rfl, h1, r1⟩ := trodAll_cons r0
  obtain ⟨v2, vs2, d2, ds2, p2, q2, rfl, rfl, rfl, h2, r2⟩ := trodAll_cons r1
  obtain ⟨v3, vs3, d3, ds3, p3, q3, rfl, rfl, rfl, h3, r3⟩ := trodAll_cons r2
  obtain ⟨rfl, rfl, rfl⟩ := trodAll_nil r3
  obtain rfl : args = #[v0, v1, v2, v3] := by cases args; simp_all
  obtain ⟨rfl, rfl⟩ := trodVars_none hV
  have k0 := h0
  have lt0 : ∀ x ∈ p0, x.block < W.heap.size := by obtain ⟨m, hm⟩ := k0; exact DataW.trod_lt m _ _ _ hm
  have k1 := h1
  have lt1 : ∀ x ∈ p1, x.block < W.heap.size := by obtain ⟨m, hm⟩ := k1; exact DataW.trod_lt m _ _ _ hm
  have k2 := h2
  have lt2 : ∀ x ∈ p2, x.block < W.heap.size := by obtain ⟨m, hm⟩ := k2; exact DataW.trod_lt m _ _ _ hm
  have k3 := h3
  have lt3 : ∀ x ∈ p3, x.block < W.heap.size := by obtain ⟨m, hm⟩ := k3; exact DataW.trod_lt m _ _ _ hm
  obtain ⟨a0, len0, cap0, rfl⟩ := okWide_slice Try.underlying22 (hval 0 22 v0 rfl rfl)
  have f0 : IntRow .u64 W a0 len0 ∧ len0 ≤ cap0 := by
    obtain ⟨fuel, hf⟩ := h0
    rcases open_ints Try.underlying22 Try.underlying31 (by kernel_rfl) hf with ⟨hcs, _⟩ | ⟨x, l, c, zs, hcs, _, hl, hm, hz, _, hcell, hwz⟩
    · simp [Value.cells] at hcs
      obtain ⟨rfl, rfl, rfl⟩ := hcs
      exact ⟨intRow_of (cap := 0) (zs := []) (.inl ⟨rfl, rfl⟩), Nat.le_refl _⟩
    · simp [Value.cells] at hcs
      obtain ⟨rfl, rfl, rfl⟩ := hcs
      exact ⟨intRow_of (.inr ⟨_, rfl, hl, hm, by simpa using hz, hcell, hwz⟩), hl⟩
  obtain ⟨a1, len1, cap1, rfl⟩ := okWide_slice Try.underlying23 (hval 1 23 v1 rfl rfl)
  have f1 : IntRow .u16 W a1 len1 ∧ len1 ≤ cap1 := by
    obtain ⟨fuel, hf⟩ := h1
    rcases open_ints Try.underlying23 Try.underlying25 (by kernel_rfl) hf with ⟨hcs, _⟩ | ⟨x, l, c, zs, hcs, _, hl, hm, hz, _, hcell, hwz⟩
    · simp [Value.cells] at hcs
      obtain ⟨rfl, rfl, rfl⟩ := hcs
      exact ⟨intRow_of (cap := 0) (zs := []) (.inl ⟨rfl, rfl⟩), Nat.le_refl _⟩
    · simp [Value.cells] at hcs
      obtain ⟨rfl, rfl, rfl⟩ := hcs
      exact ⟨intRow_of (.inr ⟨_, rfl, hl, hm, by simpa using hz, hcell, hwz⟩), hl⟩
  obtain ⟨a2, rfl, rfl, rfl, f2⟩ := open_int Try.underlying3 (hval 2 3 v2 rfl rfl) h2
  obtain ⟨a3, rfl, rfl, rfl, f3⟩ := open_int Try.underlying25 (hval 3 25 v3 rfl rfl) h3
  clear hA0 hval0
  refine (routeOnce_walk a0 len0 cap0 a1 len1 cap1 a2 a3 W f0 f1 f2 f3).mono fun e W' ⟨he, bel⟩ => ?_
  subst he
  exact ⟨_, rfl, _, _, _, [], _, [], hW', trodAll_mk1 (shut_bool Try.underlying4 _), (trodAll_cons_mk (Below.trod routeOnce_laid (by kernel_rfl) (of_decide_eq_true (by kernel_rfl)) k0 bel lt0) (trodAll_cons_mk (Below.trod routeOnce_laid (by kernel_rfl) (of_decide_eq_true (by kernel_rfl)) k1 bel lt1) (trodAll_cons_mk (Below.trod routeOnce_laid (by kernel_rfl) (of_decide_eq_true (by kernel_rfl)) k2 bel lt2) (trodAll_cons_mk (Below.trod routeOnce_laid (by kernel_rfl) (of_decide_eq_true (by kernel_rfl)) k3 bel lt3) trodAll_mk0)))), rfl, bel.frame _, fun h => by cases h⟩
theorem routeOnce_holds : Rows.RouteOnceSaid :=
  OpenClaim.holds_of_wide 4 Try.f4 rfl rfl rfl rfl rfl rfl rfl ⟨rfl, rfl, rfl, rfl, rfl⟩ rfl rfl rfl rfl rfl (by kernel_rfl) Try.func4 (by kernel_rfl)
    (of_decide_eq_true (by kernel_rfl)) (by unfold Func.isWrapper; first | (rw [if_pos (by decide +kernel)]; kernel_rfl) | (rw [if_neg (by decide +kernel)]; exact ⟨rfl, rfl⟩))
    (fun os started H enc _ => routeOnce_lifted os started H enc)
#print axioms routeOnce_holds
end Go.Proofs.Ytddddlphnoicpaa
