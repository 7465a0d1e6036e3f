/-
  In which order the last ones came does not matter: the law answers true for every input, and its arguments read as before.
-/
import Derived.Test.YthhmgodnmgmjdaaSkFacts
namespace Go.Proofs.Ythhmgodnmgmjdaa
open Go.ChangeShapes Go.WideShapes Go.ChangeAt Go.RowKit Go.Hg Go.Shelf
set_option linter.unusedSimpArgs false
set_option linter.unusedVariables false
set_option maxRecDepth 10000 in
set_option maxHeartbeats 1000000 in
theorem skewOrder_walk (a : Option Addr) (len_ cap : Nat) (w : World) (h1 : PairRow w a len_ cap) :
    Calls Try.prog 8 #[.slice a len_ cap] w fun e w' => e = .returned (.bool true) ∧ Below w.heap.size w w' := by
  obtain ⟨hlen, hcap, b, off, f, g, hrow⟩ := h1
  obtain ⟨m, hm⟩ : ∃ m : Nat, m = min len_ 16 := ⟨_, rfl⟩
  have hmin : (if (16 : Int) < (len_ : Int) then (16 : Int) else (len_ : Int)) = (m : Int) := by split <;> omega
  have hmin2 : min (len_ : Int) 16 = (m : Int) := by omega
  have hml : m ≤ len_ := by omega
  have hmc : (m : Int) ≤ cap := by omega
  have hm16 : m ≤ 16 := by omega
  clear hm
  have H := At.start w
  go_enter Try.func8, Try.ntmps8
  go_wp2_with fail
  refine (shown_c H).mono ?_; rintro e w' ⟨rfl, H⟩
  go_wp2_with ((with_reducible refine wpList_op rfl ?_); intro _ hK; first
    | (refine wp_box_sl (v := .agg (skC (List.replicate 16 0) 0)) 27 _ rfl rfl H (fun pa w' (H : At w [raw pa (skC (List.replicate 16 0) 0) 27] w') _ => hK _ _ ?_))
    | (refine wp_box_sl (v := .agg (skC (List.replicate 16 0) 0)) 27 _ rfl rfl H (fun pb w' (H : At w [raw pb (skC (List.replicate 16 0) 0) 27, raw pa (skC (List.replicate 16 0) 0) 27] w') _ => hK _ _ ?_)))
  have H : At w [skw pa [], skw pb []] w' := skw_new ((skw_new H).pull 1 rfl)
  obtain ⟨f', hf'⟩ : ∃ f' : Nat → Int, f' = fun i => f (m - 1 - i) := ⟨_, rfl⟩
  obtain ⟨g', hg'⟩ : ∃ g' : Nat → Int, g' = fun i => g (m - 1 - i) := ⟨_, rfl⟩
  have HF := Lib.hid hf'
  have HG := Lib.hid hg'
  clear hf' hg'
  go_loopw [6] (fun i wr => ∃ j : Nat, j ≤ m ∧ i = .int .i64 j ∧ At w [skw pa (told f g j), skw pb (told f' g' j)] wr) (fun i _ => m - (intOf i).toNat)
  case atStart => exact ⟨0, by omega, rfl, H⟩
  case round =>
    clear H
    obtain ⟨j, hj, rfl, H⟩ := hrel
    by_cases g1 : (j : Int) < m
    · obtain ⟨rfl, hblt, hc0, hc1, hf0, hf1, hg0, hg1⟩ := hrow j (by omega)
      have hlj : (told f g j).length ≤ 1000000 := by have := told_length f g j; omega
      obtain ⟨x, hx⟩ : ∃ x, x = apB (f j) (g j) := ⟨_, rfl⟩
      obtain ⟨D, hD⟩ : ∃ D, D = told f g (j + 1) := ⟨_, rfl⟩
      have hadd : ∀ (p : Nat) (wr : World) (F : List SP), At w (skw p (told f g j) :: F) wr → Calls Try.prog 13 #[.pointer (some ⟨p, 0, none⟩), .int .u64 (f j), .int .u64 (g j)] wr fun e w' => e = .returned (.bool x) ∧ At w (skw p D :: F) w' := fun p wr F H => by
        rw [hx, hD]
        exact add_c H hlj hf0 hf1 hg0 hg1
      have ac0 : ∀ w', At w [] w' → w'.cell? ⟨b, off + j * 2, none⟩ = some (.int .u64 (f j)) := fun w' h => (h.below.cell (p := ⟨b, off + j * 2, none⟩) hblt).trans hc0
      have ac1 : ∀ w', At w [] w' → w'.cell? ⟨b, off + j * 2 + 1, none⟩ = some (.int .u64 (g j)) := fun w' h => (h.below.cell (p := ⟨b, off + j * 2 + 1, none⟩) hblt).trans hc1
      have HD := Lib.hid hD
      obtain ⟨k, hk⟩ : ∃ k, k = m - 1 - j := ⟨_, rfl⟩
      obtain ⟨_, _, kc0, kc1, kf0, kf1, kg0, kg1⟩ := hrow k (by omega)
      have ef : f' j = f k := by rw [HF.out, hk]
      have eg : g' j = g k := by rw [HG.out, hk]
      obtain ⟨x2, hx2⟩ : ∃ x, x = apB (f k) (g k) := ⟨_, rfl⟩
      obtain ⟨E, hE⟩ : ∃ E, E = told f' g' (j + 1) := ⟨_, rfl⟩
      have hle : (told f' g' j).length ≤ 1000000 := by have := told_length f' g' j; omega
      have hadd2 : ∀ (p : Nat) (wr : World) (F : List SP), At w (skw p (told f' g' j) :: F) wr → Calls Try.prog 13 #[.pointer (some ⟨p, 0, none⟩), .int .u64 (f k), .int .u64 (g k)] wr fun e w' => e = .returned (.bool x2) ∧ At w (skw p E :: F) w' := fun p wr F H => by
        rw [hx2, hE, ← ef, ← eg]
        exact add_c H hle (by rw [ef]; exact kf0) (by rw [ef]; exact kf1) (by rw [eg]; exact kg0) (by rw [eg]; exact kg1)
      have bc0 : ∀ w', At w [] w' → w'.cell? ⟨b, off + k * 2, none⟩ = some (.int .u64 (f k)) := fun w' h => (h.below.cell (p := ⟨b, off + k * 2, none⟩) hblt).trans kc0
      have bc1 : ∀ w', At w [] w' → w'.cell? ⟨b, off + k * 2 + 1, none⟩ = some (.int .u64 (g k)) := fun w' h => (h.below.cell (p := ⟨b, off + k * 2 + 1, none⟩) hblt).trans kc1
      have HE := Lib.hid hE
      obtain ⟨m1, hm1⟩ : ∃ m1, m1 = m - 1 := ⟨_, rfl⟩
      have q1 : (m : Int) - 1 = (m1 : Int) := by omega
      have q2 : (m1 : Int) - (j : Int) = (k : Int) := by omega
      have q3 : (k : Int) < (m : Int) := by omega
      have q4 : IntKind.i64.wrap (k : Int) = k := by rw [IntKind.wrap_i64]; omega
      have q5 : IntKind.i64.wrap (m1 : Int) = m1 := by rw [IntKind.wrap_i64]; omega
      clear hx hD hc0 hc1 hf0 hf1 hg0 hg1 hlj hE hle hrow hx2 ef eg kc0 kc1 kf0 kf1 kg0 kg1 hk hm1
      generalize f j = fj at hadd ac0
      generalize g j = gj at hadd ac1
      generalize f k = fk at hadd2 bc0
      generalize g k = gk at hadd2 bc1
      go_wp2_with fail
      refine wpL_begin 12 (At w []) [(0, true), (1, true), (2, true), (3, true), (4, true), (5, true), (6, true), (7, true), (8, true), (9, true), (10, true), (11, false)] rfl (by kernel_rfl) (by kernel_rfl) ((H.drew.mask [])) ?_
      intro ops hOps hS
      replace H := H.drew
      refine wpL_take hOps hS rfl (fun _ _ _ h => h) (yl_move rfl _ rfl) ?_
      simp only [Act.put, Act.eval, List.setIfInBounds_toArray, List.set_cons_zero, List.set_cons_succ, Array.getD_eq_getD_getElem?, List.getElem?_toArray, List.getElem?_cons_zero, List.getElem?_cons_succ, Option.getD_some]
      refine wpL_take hOps hS rfl (fun _ _ _ h => h) (yl_move rfl _ rfl) ?_
      simp only [Act.put, Act.eval, List.setIfInBounds_toArray, List.set_cons_zero, List.set_cons_succ, Array.getD_eq_getD_getElem?, List.getElem?_toArray, List.getElem?_cons_zero, List.getElem?_cons_succ, Option.getD_some]
      refine wpL_take hOps hS rfl (fun _ _ _ h => h) (yl_move rfl _ rfl) ?_
      simp only [Act.put, Act.eval, List.setIfInBounds_toArray, List.set_cons_zero, List.set_cons_succ, Array.getD_eq_getD_getElem?, List.getElem?_toArray, List.getElem?_cons_zero, List.getElem?_cons_succ, Option.getD_some]
      refine wpL_take hOps hS (v := ?vOp14) rfl (fun _ _ _ h => h) (yl rfl ?yOp14) ?_
      case yOp14 => (intro w hw; go_simp; first | done | rfl)
      simp only [Act.put, Act.eval, List.setIfInBounds_toArray, List.set_cons_zero, List.set_cons_succ, Array.getD_eq_getD_getElem?, List.getElem?_toArray, List.getElem?_cons_zero, List.getElem?_cons_succ, Option.getD_some]
      refine wpL_take hOps hS (v := ?vOp16) rfl (fun _ _ _ h => h) (yl rfl ?yOp16) ?_
      case yOp16 => (intro w hw; go_simp; first | done | rfl)
      simp only [Act.put, Act.eval, List.setIfInBounds_toArray, List.set_cons_zero, List.set_cons_succ, Array.getD_eq_getD_getElem?, List.getElem?_toArray, List.getElem?_cons_zero, List.getElem?_cons_succ, Option.getD_some]
      refine wpL_take hOps hS rfl (fun _ _ _ h => h) (yl_get rfl _ _ rfl rfl (by kernel_rfl) ac0) ?_
      simp only [Act.put, Act.eval, List.setIfInBounds_toArray, List.set_cons_zero, List.set_cons_succ, Array.getD_eq_getD_getElem?, List.getElem?_toArray, List.getElem?_cons_zero, List.getElem?_cons_succ, Option.getD_some]
      refine wpL_take hOps hS rfl (fun _ _ _ h => h) (yl_move rfl _ rfl) ?_
      simp only [Act.put, Act.eval, List.setIfInBounds_toArray, List.set_cons_zero, List.set_cons_succ, Array.getD_eq_getD_getElem?, List.getElem?_toArray, List.getElem?_cons_zero, List.getElem?_cons_succ, Option.getD_some]
      refine wpL_take hOps hS rfl (fun _ _ _ h => h) (yl_move rfl _ rfl) ?_
      simp only [Act.put, Act.eval, List.setIfInBounds_toArray, List.set_cons_zero, List.set_cons_succ, Array.getD_eq_getD_getElem?, List.getElem?_toArray, List.getElem?_cons_zero, List.getElem?_cons_succ, Option.getD_some]
      refine wpL_take hOps hS (v := ?vOp26) rfl (fun _ _ _ h => h) (yl rfl ?yOp26) ?_
      case yOp26 => (intro w hw; go_simp; first | done | rfl)
      simp only [Act.put, Act.eval, List.setIfInBounds_toArray, List.set_cons_zero, List.set_cons_succ, Array.getD_eq_getD_getElem?, List.getElem?_toArray, List.getElem?_cons_zero, List.getElem?_cons_succ, Option.getD_some]
      refine wpL_take hOps hS (v := ?vOp28) rfl (fun _ _ _ h => h) (yl rfl ?yOp28) ?_
      case yOp28 => (intro w hw; go_simp; first | done | rfl)
      simp only [Act.put, Act.eval, List.setIfInBounds_toArray, List.set_cons_zero, List.set_cons_succ, Array.getD_eq_getD_getElem?, List.getElem?_toArray, List.getElem?_cons_zero, List.getElem?_cons_succ, Option.getD_some]
      refine wpL_take hOps hS rfl (fun _ _ _ h => h) (yl_get rfl _ _ rfl rfl (by kernel_rfl) ac1) ?_
      simp only [Act.put, Act.eval, List.setIfInBounds_toArray, List.set_cons_zero, List.set_cons_succ, Array.getD_eq_getD_getElem?, List.getElem?_toArray, List.getElem?_cons_zero, List.getElem?_cons_succ, Option.getD_some]
      refine wpL_next hOps rfl rfl ?_
      intro K hK
      refine wp_call _ _ _ rfl Try.func13 rfl (by kernel_rfl) ?_
      simp only [List.map_toArray, List.map_cons, List.map_nil, Act.eval, Array.getD_eq_getD_getElem?, List.getElem?_toArray, List.getElem?_cons_zero, List.getElem?_cons_succ, Option.getD_some]
      refine (hadd _ _ _ H).mono ?_; rintro e w' ⟨rfl, H⟩
      have hS := (H.mask [])
      refine hK _ _ hS ?_
      clear hK K
      simp only [Act.put, Act.eval, List.setIfInBounds_toArray, List.set_cons_zero, List.set_cons_succ, Array.getD_eq_getD_getElem?, List.getElem?_toArray, List.getElem?_cons_zero, List.getElem?_cons_succ, Option.getD_some]
      refine wpL_end ?_
      clear hOps hS ops
      go_wp2_with fail
      refine wpL_begin 20 (At w []) [(0, true), (1, true), (2, true), (3, true), (4, true), (5, true), (6, true), (7, true), (8, true), (9, true), (10, true), (11, true), (12, true), (13, true), (14, true), (15, true), (16, true), (17, true), (18, true), (19, false)] rfl (by kernel_rfl) (by kernel_rfl) ((H.drew.mask [])) ?_
      intro ops hOps hS
      replace H := H.drew
      refine wpL_take hOps hS rfl (fun _ _ _ h => h) (yl_move rfl _ rfl) ?_
      simp only [Act.put, Act.eval, List.setIfInBounds_toArray, List.set_cons_zero, List.set_cons_succ, Array.getD_eq_getD_getElem?, List.getElem?_toArray, List.getElem?_cons_zero, List.getElem?_cons_succ, Option.getD_some]
      refine wpL_take hOps hS rfl (fun _ _ _ h => h) (yl_move rfl _ rfl) ?_
      simp only [Act.put, Act.eval, List.setIfInBounds_toArray, List.set_cons_zero, List.set_cons_succ, Array.getD_eq_getD_getElem?, List.getElem?_toArray, List.getElem?_cons_zero, List.getElem?_cons_succ, Option.getD_some]
      refine wpL_take hOps hS rfl (fun _ _ _ h => h) (yl_move rfl _ rfl) ?_
      simp only [Act.put, Act.eval, List.setIfInBounds_toArray, List.set_cons_zero, List.set_cons_succ, Array.getD_eq_getD_getElem?, List.getElem?_toArray, List.getElem?_cons_zero, List.getElem?_cons_succ, Option.getD_some]
      refine wpL_take hOps hS (v := ?vOp47) rfl (fun _ _ _ h => h) (yl rfl ?yOp47) ?_
      case yOp47 => (intro w hw; go_simp; first | done | rfl)
      simp only [Act.put, Act.eval, List.setIfInBounds_toArray, List.set_cons_zero, List.set_cons_succ, Array.getD_eq_getD_getElem?, List.getElem?_toArray, List.getElem?_cons_zero, List.getElem?_cons_succ, Option.getD_some]
      refine wpL_take hOps hS (v := ?vOp49) rfl (fun _ _ _ h => h) (yl rfl ?yOp49) ?_
      case yOp49 => (intro w hw; go_simp; first | done | rfl)
      simp only [Act.put, Act.eval, List.setIfInBounds_toArray, List.set_cons_zero, List.set_cons_succ, Array.getD_eq_getD_getElem?, List.getElem?_toArray, List.getElem?_cons_zero, List.getElem?_cons_succ, Option.getD_some]
      refine wpL_take hOps hS rfl (fun _ _ _ h => h) (yl_move rfl _ rfl) ?_
      simp only [Act.put, Act.eval, List.setIfInBounds_toArray, List.set_cons_zero, List.set_cons_succ, Array.getD_eq_getD_getElem?, List.getElem?_toArray, List.getElem?_cons_zero, List.getElem?_cons_succ, Option.getD_some]
      refine wpL_take hOps hS (v := ?vOp54) rfl (fun _ _ _ h => h) (yl rfl ?yOp54) ?_
      case yOp54 => (intro w hw; go_simp; first | done | rfl)
      simp only [Act.put, Act.eval, List.setIfInBounds_toArray, List.set_cons_zero, List.set_cons_succ, Array.getD_eq_getD_getElem?, List.getElem?_toArray, List.getElem?_cons_zero, List.getElem?_cons_succ, Option.getD_some]
      refine wpL_take hOps hS (v := ?vOp56) rfl (fun _ _ _ h => h) (yl rfl ?yOp56) ?_
      case yOp56 => (intro w hw; go_simp; first | done | rfl)
      simp only [Act.put, Act.eval, List.setIfInBounds_toArray, List.set_cons_zero, List.set_cons_succ, Array.getD_eq_getD_getElem?, List.getElem?_toArray, List.getElem?_cons_zero, List.getElem?_cons_succ, Option.getD_some]
      refine wpL_take hOps hS (v := ?vOp58) rfl (fun _ _ _ h => h) (yl rfl ?yOp58) ?_
      case yOp58 => (intro w hw; go_simp; first | done | rfl)
      simp only [Act.put, Act.eval, List.setIfInBounds_toArray, List.set_cons_zero, List.set_cons_succ, Array.getD_eq_getD_getElem?, List.getElem?_toArray, List.getElem?_cons_zero, List.getElem?_cons_succ, Option.getD_some]
      refine wpL_take hOps hS rfl (fun _ _ _ h => h) (yl_get rfl _ _ rfl rfl (by kernel_rfl) bc0) ?_
      simp only [Act.put, Act.eval, List.setIfInBounds_toArray, List.set_cons_zero, List.set_cons_succ, Array.getD_eq_getD_getElem?, List.getElem?_toArray, List.getElem?_cons_zero, List.getElem?_cons_succ, Option.getD_some]
      refine wpL_take hOps hS rfl (fun _ _ _ h => h) (yl_move rfl _ rfl) ?_
      simp only [Act.put, Act.eval, List.setIfInBounds_toArray, List.set_cons_zero, List.set_cons_succ, Array.getD_eq_getD_getElem?, List.getElem?_toArray, List.getElem?_cons_zero, List.getElem?_cons_succ, Option.getD_some]
      refine wpL_take hOps hS rfl (fun _ _ _ h => h) (yl_move rfl _ rfl) ?_
      simp only [Act.put, Act.eval, List.setIfInBounds_toArray, List.set_cons_zero, List.set_cons_succ, Array.getD_eq_getD_getElem?, List.getElem?_toArray, List.getElem?_cons_zero, List.getElem?_cons_succ, Option.getD_some]
      refine wpL_take hOps hS (v := ?vOp68) rfl (fun _ _ _ h => h) (yl rfl ?yOp68) ?_
      case yOp68 => (intro w hw; go_simp; first | done | rfl)
      simp only [Act.put, Act.eval, List.setIfInBounds_toArray, List.set_cons_zero, List.set_cons_succ, Array.getD_eq_getD_getElem?, List.getElem?_toArray, List.getElem?_cons_zero, List.getElem?_cons_succ, Option.getD_some]
      refine wpL_take hOps hS (v := ?vOp70) rfl (fun _ _ _ h => h) (yl rfl ?yOp70) ?_
      case yOp70 => (intro w hw; go_simp; first | done | rfl)
      simp only [Act.put, Act.eval, List.setIfInBounds_toArray, List.set_cons_zero, List.set_cons_succ, Array.getD_eq_getD_getElem?, List.getElem?_toArray, List.getElem?_cons_zero, List.getElem?_cons_succ, Option.getD_some]
      refine wpL_take hOps hS rfl (fun _ _ _ h => h) (yl_move rfl _ rfl) ?_
      simp only [Act.put, Act.eval, List.setIfInBounds_toArray, List.set_cons_zero, List.set_cons_succ, Array.getD_eq_getD_getElem?, List.getElem?_toArray, List.getElem?_cons_zero, List.getElem?_cons_succ, Option.getD_some]
      refine wpL_take hOps hS (v := ?vOp75) rfl (fun _ _ _ h => h) (yl rfl ?yOp75) ?_
      case yOp75 => (intro w hw; go_simp; first | done | rfl)
      simp only [Act.put, Act.eval, List.setIfInBounds_toArray, List.set_cons_zero, List.set_cons_succ, Array.getD_eq_getD_getElem?, List.getElem?_toArray, List.getElem?_cons_zero, List.getElem?_cons_succ, Option.getD_some]
      refine wpL_take hOps hS (v := ?vOp77) rfl (fun _ _ _ h => h) (yl rfl ?yOp77) ?_
      case yOp77 => (intro w hw; go_simp; first | done | rfl)
      simp only [Act.put, Act.eval, List.setIfInBounds_toArray, List.set_cons_zero, List.set_cons_succ, Array.getD_eq_getD_getElem?, List.getElem?_toArray, List.getElem?_cons_zero, List.getElem?_cons_succ, Option.getD_some]
      refine wpL_take hOps hS (v := ?vOp79) rfl (fun _ _ _ h => h) (yl rfl ?yOp79) ?_
      case yOp79 => (intro w hw; go_simp; first | done | rfl)
      simp only [Act.put, Act.eval, List.setIfInBounds_toArray, List.set_cons_zero, List.set_cons_succ, Array.getD_eq_getD_getElem?, List.getElem?_toArray, List.getElem?_cons_zero, List.getElem?_cons_succ, Option.getD_some]
      refine wpL_take hOps hS rfl (fun _ _ _ h => h) (yl_get rfl _ _ rfl rfl (by kernel_rfl) bc1) ?_
      simp only [Act.put, Act.eval, List.setIfInBounds_toArray, List.set_cons_zero, List.set_cons_succ, Array.getD_eq_getD_getElem?, List.getElem?_toArray, List.getElem?_cons_zero, List.getElem?_cons_succ, Option.getD_some]
      refine wpL_next hOps rfl rfl ?_
      intro K hK
      refine wp_call _ _ _ rfl Try.func13 rfl (by kernel_rfl) ?_
      simp only [List.map_toArray, List.map_cons, List.map_nil, Act.eval, Array.getD_eq_getD_getElem?, List.getElem?_toArray, List.getElem?_cons_zero, List.getElem?_cons_succ, Option.getD_some]
      refine (hadd2 _ _ _ (H.pull 1 rfl)).mono ?_; rintro e w' ⟨rfl, H⟩
      have hS := (H.mask [])
      refine hK _ _ hS ?_
      clear hK K
      simp only [Act.put, Act.eval, List.setIfInBounds_toArray, List.set_cons_zero, List.set_cons_succ, Array.getD_eq_getD_getElem?, List.getElem?_toArray, List.getElem?_cons_zero, List.getElem?_cons_succ, Option.getD_some]
      refine wpL_end ?_
      clear hOps hS ops
      go_wp2_with fail
      first
        | (refine ⟨?_, ?measure⟩; iterate 60 (try apply Exists.intro); refine ⟨?rel, rfl⟩)
        | refine ⟨?rel, ?measure⟩
      case rel => exact ⟨j + 1, by omega, by go_num, by have h1 := HD.out; have h2 := HE.out; rw [← h1, ← h2]; exact H.pull 1 rfl⟩
      case measure => simp [intOf]; omega
    · obtain rfl : j = m := by omega
      have hp := told_back f g j
      rw [← HF.out, ← HG.out] at hp
      obtain ⟨e1, e2, e3, e4, e5⟩ := same_all hp (by have := told_length f' g' j; omega)
      generalize told f g j = Da at H e1 e2 e3 e4 e5
      generalize told f' g' j = Db at H e1 e2 e3 e4 e5
      have E1 := Lib.hid e1
      have E2 := Lib.hid e2
      have E3 := Lib.hid e3
      have E4 := Lib.hid e4
      have E5 := Lib.hid e5
      clear e1 e2 e3 e4 e5 hp hrow
      go_wp2_with fail
      refine (bd_c H).mono ?_; rintro e w' ⟨rfl, H⟩
      go_wp2_with fail
      refine (bd_c (H.pull 1 rfl)).mono ?_; rintro e w' ⟨rfl, H⟩
      rw [E1.out, E2.out, E4.out]
      go_wp2_with fail
      refine (md_c (H.pull 1 rfl)).mono ?_; rintro e w' ⟨rfl, H⟩
      go_wp2_with fail
      refine (md_c (H.pull 1 rfl)).mono ?_; rintro e w' ⟨rfl, H⟩
      rw [E3.out, E4.out]
      go_wp2_with fail
      refine (ln_c (H.pull 1 rfl)).mono ?_; rintro e w' ⟨rfl, H⟩
      go_wp2_with fail
      refine (ln_c (H.pull 1 rfl)).mono ?_; rintro e w' ⟨rfl, H⟩
      rw [E5.out]
      go_wp2
      go_ret
      exact ⟨rfl, H.below⟩
theorem skewOrder_own : ownKnob Try.prog.godebug = none := by kernel_rfl
theorem skewOrder_laid : laidOutB Try.prog = true := by kernel_rfl
set_option maxRecDepth 100000 in
theorem skewOrder_lifted (os : Os) (started : os.Started) (H : Type) (enc : TypeId × Value → H) :
    ReturnsInHanded {} Try.checked os 8 .any (Rows.skewOrderSpec.pre6 enc Try.prog Try.f8 Rows.skewOrderRow.domain false) (Rows.skewOrderSpec.post enc Try.prog Try.f8 false true false false) := by
  refine returnsInHanded_of_change (C := Try.checked) skewOrder_own started (by kernel_rfl) Try.func8
    (ChangeSpec.witness6 (enc := enc) (C := Try.checked) false ⟨#[], #[.slice none 0 0], []⟩ 8 (by kernel_rfl) (by kernel_rfl) (by kernel_rfl) (by kernel_rfl)) ?_
  intro W base args ds gs before hval0 hW hcnd _
  have hval : ∀ (j : Nat) t v, Try.f8.params[j]? = some t → args[j]? = some v → Value.okWide Try.prog W .any base t v := hval0
  have hW' := hW
  obtain ⟨p, q, hA0, hV, rfl, hfz, hnd⟩ := hW
  have hA : DataW.TrodAll enc Try.prog W 0 (fun _ => true) true Try.f8.params.toList args.toList ds p := hA0
  rw [Try.params8] at hA hval
  obtain ⟨v0, vs0, d0, ds0, p0, q0, hargs, rfl, rfl, h0, r0⟩ := trodAll_cons hA
  obtain ⟨rfl, rfl, rfl⟩ := trodAll_nil r0
  obtain rfl : args = #[v0] := by cases args; simp_all
  obtain ⟨rfl, rfl⟩ := trodVars_none hV
  have k0 := h0
  have lt0 : ∀ x ∈ p0, x.block < W.heap.size := by obtain ⟨m, hm⟩ := k0; exact DataW.trod_lt m _ _ _ hm
  obtain ⟨a0_0, a0_1, a0_2, f0, rfl⟩ := open_pairs (hval 0 22 v0 rfl rfl) h0
  clear hA0 hval0
  refine (skewOrder_walk a0_0 a0_1 a0_2 W f0).mono fun e W' ⟨he, bel⟩ => ?_
  subst he
  exact ⟨_, rfl, _, _, _, [], _, [], hW', trodAll_mk1 (shut_bool Try.underlying4 _), (trodAll_cons_mk (Below.trod skewOrder_laid (by kernel_rfl) (of_decide_eq_true (by kernel_rfl)) k0 bel lt0) trodAll_mk0), rfl, bel.frame _, fun h => by cases h⟩
theorem skewOrder_holds : Rows.SkewOrderSaid :=
  OpenClaim.holds_of_wide 8 Try.f8 rfl rfl rfl rfl rfl rfl rfl ⟨rfl, rfl, rfl, rfl, rfl⟩ rfl rfl rfl rfl rfl (by kernel_rfl) Try.func8 (by kernel_rfl)
    (of_decide_eq_true (by kernel_rfl)) (by unfold Func.isWrapper; first | (rw [if_pos (by decide +kernel)]; kernel_rfl) | (rw [if_neg (by decide +kernel)]; exact ⟨rfl, rfl⟩))
    (fun os started H enc _ => skewOrder_lifted os started H enc)
#print axioms skewOrder_holds
end Go.Proofs.Ythhmgodnmgmjdaa
