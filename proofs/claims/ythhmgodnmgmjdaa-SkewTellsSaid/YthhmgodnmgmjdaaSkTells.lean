/-
  Skews are what the document says: the law answers true for every input, and its arguments read as before.
-/
import Derived.Test.YthhmgodnmgmjdaaLaw14
import Derived.Test.YthhmgodnmgmjdaaTold
import Derived.Test.YthhmgodnmgmjdaaUp
namespace Go.Proofs.Ythhmgodnmgmjdaa
open Go.ChangeShapes Go.WideShapes Go.ChangeAt Go.RowKit Go.Hg Go.Shelf
set_option linter.unusedSimpArgs false
set_option linter.unusedVariables false
theorem nlo_c {w0 w : World} {F : List SP} {q : Nat} {D : List Int} (H : At w0 (rsk q (last D) :: F) w) : Calls Try.prog 18 #[.pointer (some ⟨q, 0, none⟩), .int .i64 0] w fun e w' => e = .returned (.int .i64 (lo D)) ∧ At w0 (rsk q (last D) :: F) w' :=
  nth_c H (by rw [last_length]; omega) 0 (by omega)
theorem nhi_c {w0 w : World} {F : List SP} {q : Nat} {D : List Int} (H : At w0 (rsk q (last D) :: F) w) {k : Nat} (hk : len D - 1 = k) : Calls Try.prog 18 #[.pointer (some ⟨q, 0, none⟩), .int .i64 k] w fun e w' => e = .returned (.int .i64 (hi D)) ∧ At w0 (rsk q (last D) :: F) w' := by
  subst hk
  exact nth_c H (by rw [last_length]; omega) (len D - 1) (by unfold len; rw [last_length]; omega)
theorem nmid_c {w0 w : World} {F : List SP} {q : Nat} {D : List Int} (H : At w0 (rsk q (last D) :: F) w) {k : Nat} (hk : (len D - 1) / 2 = k) : Calls Try.prog 18 #[.pointer (some ⟨q, 0, none⟩), .int .i64 k] w fun e w' => e = .returned (.int .i64 (mid D)) ∧ At w0 (rsk q (last D) :: F) w' := by
  subst hk
  exact nth_c H (by rw [last_length]; omega) ((len D - 1) / 2) (by unfold len; rw [last_length]; omega)
set_option maxRecDepth 10000 in
set_option maxHeartbeats 1000000 in
theorem skewTells_walk (a : Option Addr) (len_ cap : Nat) (w : World) (h1 : PairRow w a len_ cap) :
    Calls Try.prog 3 #[.slice a len_ cap] w fun e w' => e = .returned (.bool true) ∧ Below w.heap.size w w' := by
  obtain ⟨hlen, hcap, b, off, f, g, hrow⟩ := h1
  have H := At.start w
  go_enter Try.func3, Try.ntmps3
  go_wp2_with fail
  refine (shown_c H).mono ?_; rintro e w' ⟨rfl, H⟩
  go_wp2_with ((with_reducible refine wpList_op rfl ?_); intro _ hK; first
    | (refine wp_box_sl (v := .agg (skC (List.replicate 16 0) 0)) 27 _ rfl rfl H (fun p w' (H : At w [raw p (skC (List.replicate 16 0) 0) 27] w') _ => hK _ _ ?_))
    | (refine wp_box_sl (v := .agg #[.slice none 0 0]) 31 _ rfl rfl H (fun q w' (H : At w (raw q #[.slice none 0 0] 31 :: _) w') _ => hK _ _ ?_)))
  have H : At w [skw p [], rsk q (last [])] w' := by
    have H2 := skw_new (H.pull 1 rfl)
    have H3 := lrow_nil (H2.pull 1 rfl) (ic .i64) 2 1
    exact ((rsk_shut (L := []) (a := none) (c := 0) (H3.pull 1 rfl)).pull 1 rfl)
  go_loopw [6] (fun i wr => ∃ j : Nat, j ≤ 80 ∧ i = .int .i64 j ∧ At w [skw p (told f g j), rsk q (last (told f g j))] wr) (fun i _ => 80 - (intOf i).toNat)
  case atStart => exact ⟨0, by omega, rfl, H⟩
  case round =>
    clear H
    obtain ⟨j, hj, rfl, H⟩ := hrel
    by_cases g1 : (j : Int) < len_
    · by_cases g2 : (j : Int) < 80
      · obtain ⟨rfl, hblt, hc0, hc1, hf0, hf1, hg0, hg1⟩ := hrow j (by omega)
        have hlj : (told f g j).length ≤ 1000000 := by have := told_length f g j; omega
        obtain ⟨x, hx⟩ : ∃ x, x = apB (f j) (g j) := ⟨_, rfl⟩
        obtain ⟨D, hD⟩ : ∃ D, D = told f g (j + 1) := ⟨_, rfl⟩
        have hadd : ∀ (wr : World) (F : List SP), At w (skw p (told f g j) :: F) wr → Calls Try.prog 13 #[.pointer (some ⟨p, 0, none⟩), .int .u64 (f j), .int .u64 (g j)] wr fun e w' => e = .returned (.bool x) ∧ At w (skw p D :: F) w' := fun wr F H => by
          rw [hx, hD]
          exact add_c H hlj hf0 hf1 hg0 hg1
        have hradd : ∀ (wr : World) (F : List SP), At w (rsk q (last (told f g j)) :: F) wr → Calls Try.prog 14 #[.pointer (some ⟨q, 0, none⟩), .int .u64 (f j), .int .u64 (g j)] wr fun e w' => e = .returned (.bool x) ∧ At w (rsk q (last D) :: F) w' := fun wr F H => by
          rw [hx, hD]
          exact radd_c H hf0 hf1 hg0 hg1
        have ac0 : ∀ w', At w [] w' → w'.cell? ⟨b, off + j * 2, none⟩ = some (.int .u64 (f j)) := fun w' h => (h.below.cell (p := ⟨b, off + j * 2, none⟩) hblt).trans hc0
        have ac1 : ∀ w', At w [] w' → w'.cell? ⟨b, off + j * 2 + 1, none⟩ = some (.int .u64 (g j)) := fun w' h => (h.below.cell (p := ⟨b, off + j * 2 + 1, none⟩) hblt).trans hc1
        have HD := Lib.hid hD
        clear hx hD hc0 hc1 hf0 hf1 hg0 hg1 hlj hrow
        generalize f j = fj at hadd hradd ac0
        generalize g j = gj at hadd hradd ac1
        go_wp2_with fail
        refine wpL_begin 35 (At w []) [(0, true), (1, true), (2, true), (3, true), (4, true), (5, true), (6, true), (7, true), (8, true), (9, true), (10, true), (12, true), (13, true), (14, true), (15, true), (16, true), (17, true), (18, true), (19, true), (20, true), (21, true), (22, true), (11, false), (23, false), (24, true), (25, true), (26, true), (28, true), (29, true), (30, true), (31, true), (32, true), (27, false), (33, true), (34, true)] rfl (by kernel_rfl) (by kernel_rfl) ((H.drew.mask [])) ?_
        intro ops hOps hS
        replace H := H.drew
        refine wpL_take hOps hS rfl (fun _ _ _ h => h) (yl_move rfl _ rfl) ?_
        simp only [Act.put, Act.eval, List.setIfInBounds_toArray, List.set_cons_zero, List.set_cons_succ, Array.getD_eq_getD_getElem?, List.getElem?_toArray, List.getElem?_cons_zero, List.getElem?_cons_succ, Option.getD_some]
        refine wpL_take hOps hS rfl (fun _ _ _ h => h) (yl_move rfl _ rfl) ?_
        simp only [Act.put, Act.eval, List.setIfInBounds_toArray, List.set_cons_zero, List.set_cons_succ, Array.getD_eq_getD_getElem?, List.getElem?_toArray, List.getElem?_cons_zero, List.getElem?_cons_succ, Option.getD_some]
        refine wpL_take hOps hS rfl (fun _ _ _ h => h) (yl_move rfl _ rfl) ?_
        simp only [Act.put, Act.eval, List.setIfInBounds_toArray, List.set_cons_zero, List.set_cons_succ, Array.getD_eq_getD_getElem?, List.getElem?_toArray, List.getElem?_cons_zero, List.getElem?_cons_succ, Option.getD_some]
        refine wpL_take hOps hS (v := ?vOp11) rfl (fun _ _ _ h => h) (yl rfl ?yOp11) ?_
        case yOp11 => (intro w hw; go_simp; first | done | rfl)
        simp only [Act.put, Act.eval, List.setIfInBounds_toArray, List.set_cons_zero, List.set_cons_succ, Array.getD_eq_getD_getElem?, List.getElem?_toArray, List.getElem?_cons_zero, List.getElem?_cons_succ, Option.getD_some]
        refine wpL_take hOps hS (v := ?vOp13) rfl (fun _ _ _ h => h) (yl rfl ?yOp13) ?_
        case yOp13 => (intro w hw; go_simp; first | done | rfl)
        simp only [Act.put, Act.eval, List.setIfInBounds_toArray, List.set_cons_zero, List.set_cons_succ, Array.getD_eq_getD_getElem?, List.getElem?_toArray, List.getElem?_cons_zero, List.getElem?_cons_succ, Option.getD_some]
        refine wpL_take hOps hS rfl (fun _ _ _ h => h) (yl_get rfl _ _ rfl rfl (by kernel_rfl) ac0) ?_
        simp only [Act.put, Act.eval, List.setIfInBounds_toArray, List.set_cons_zero, List.set_cons_succ, Array.getD_eq_getD_getElem?, List.getElem?_toArray, List.getElem?_cons_zero, List.getElem?_cons_succ, Option.getD_some]
        refine wpL_take hOps hS rfl (fun _ _ _ h => h) (yl_move rfl _ rfl) ?_
        simp only [Act.put, Act.eval, List.setIfInBounds_toArray, List.set_cons_zero, List.set_cons_succ, Array.getD_eq_getD_getElem?, List.getElem?_toArray, List.getElem?_cons_zero, List.getElem?_cons_succ, Option.getD_some]
        refine wpL_take hOps hS rfl (fun _ _ _ h => h) (yl_move rfl _ rfl) ?_
        simp only [Act.put, Act.eval, List.setIfInBounds_toArray, List.set_cons_zero, List.set_cons_succ, Array.getD_eq_getD_getElem?, List.getElem?_toArray, List.getElem?_cons_zero, List.getElem?_cons_succ, Option.getD_some]
        refine wpL_take hOps hS (v := ?vOp23) rfl (fun _ _ _ h => h) (yl rfl ?yOp23) ?_
        case yOp23 => (intro w hw; go_simp; first | done | rfl)
        simp only [Act.put, Act.eval, List.setIfInBounds_toArray, List.set_cons_zero, List.set_cons_succ, Array.getD_eq_getD_getElem?, List.getElem?_toArray, List.getElem?_cons_zero, List.getElem?_cons_succ, Option.getD_some]
        refine wpL_take hOps hS (v := ?vOp25) rfl (fun _ _ _ h => h) (yl rfl ?yOp25) ?_
        case yOp25 => (intro w hw; go_simp; first | done | rfl)
        simp only [Act.put, Act.eval, List.setIfInBounds_toArray, List.set_cons_zero, List.set_cons_succ, Array.getD_eq_getD_getElem?, List.getElem?_toArray, List.getElem?_cons_zero, List.getElem?_cons_succ, Option.getD_some]
        refine wpL_take hOps hS rfl (fun _ _ _ h => h) (yl_get rfl _ _ rfl rfl (by kernel_rfl) ac1) ?_
        simp only [Act.put, Act.eval, List.setIfInBounds_toArray, List.set_cons_zero, List.set_cons_succ, Array.getD_eq_getD_getElem?, List.getElem?_toArray, List.getElem?_cons_zero, List.getElem?_cons_succ, Option.getD_some]
        refine wpL_take hOps hS rfl (fun _ _ _ h => h) (yl_move rfl _ rfl) ?_
        simp only [Act.put, Act.eval, List.setIfInBounds_toArray, List.set_cons_zero, List.set_cons_succ, Array.getD_eq_getD_getElem?, List.getElem?_toArray, List.getElem?_cons_zero, List.getElem?_cons_succ, Option.getD_some]
        refine wpL_take hOps hS rfl (fun _ _ _ h => h) (yl_move rfl _ rfl) ?_
        simp only [Act.put, Act.eval, List.setIfInBounds_toArray, List.set_cons_zero, List.set_cons_succ, Array.getD_eq_getD_getElem?, List.getElem?_toArray, List.getElem?_cons_zero, List.getElem?_cons_succ, Option.getD_some]
        refine wpL_take hOps hS rfl (fun _ _ _ h => h) (yl_move rfl _ rfl) ?_
        simp only [Act.put, Act.eval, List.setIfInBounds_toArray, List.set_cons_zero, List.set_cons_succ, Array.getD_eq_getD_getElem?, List.getElem?_toArray, List.getElem?_cons_zero, List.getElem?_cons_succ, Option.getD_some]
        refine wpL_take hOps hS (v := ?vOp38) rfl (fun _ _ _ h => h) (yl rfl ?yOp38) ?_
        case yOp38 => (intro w hw; go_simp; first | done | rfl)
        simp only [Act.put, Act.eval, List.setIfInBounds_toArray, List.set_cons_zero, List.set_cons_succ, Array.getD_eq_getD_getElem?, List.getElem?_toArray, List.getElem?_cons_zero, List.getElem?_cons_succ, Option.getD_some]
        refine wpL_take hOps hS (v := ?vOp40) rfl (fun _ _ _ h => h) (yl rfl ?yOp40) ?_
        case yOp40 => (intro w hw; go_simp; first | done | rfl)
        simp only [Act.put, Act.eval, List.setIfInBounds_toArray, List.set_cons_zero, List.set_cons_succ, Array.getD_eq_getD_getElem?, List.getElem?_toArray, List.getElem?_cons_zero, List.getElem?_cons_succ, Option.getD_some]
        refine wpL_take hOps hS rfl (fun _ _ _ h => h) (yl_get rfl _ _ rfl rfl (by kernel_rfl) ac0) ?_
        simp only [Act.put, Act.eval, List.setIfInBounds_toArray, List.set_cons_zero, List.set_cons_succ, Array.getD_eq_getD_getElem?, List.getElem?_toArray, List.getElem?_cons_zero, List.getElem?_cons_succ, Option.getD_some]
        refine wpL_take hOps hS rfl (fun _ _ _ h => h) (yl_move rfl _ rfl) ?_
        simp only [Act.put, Act.eval, List.setIfInBounds_toArray, List.set_cons_zero, List.set_cons_succ, Array.getD_eq_getD_getElem?, List.getElem?_toArray, List.getElem?_cons_zero, List.getElem?_cons_succ, Option.getD_some]
        refine wpL_take hOps hS rfl (fun _ _ _ h => h) (yl_move rfl _ rfl) ?_
        simp only [Act.put, Act.eval, List.setIfInBounds_toArray, List.set_cons_zero, List.set_cons_succ, Array.getD_eq_getD_getElem?, List.getElem?_toArray, List.getElem?_cons_zero, List.getElem?_cons_succ, Option.getD_some]
        refine wpL_take hOps hS (v := ?vOp50) rfl (fun _ _ _ h => h) (yl rfl ?yOp50) ?_
        case yOp50 => (intro w hw; go_simp; first | done | rfl)
        simp only [Act.put, Act.eval, List.setIfInBounds_toArray, List.set_cons_zero, List.set_cons_succ, Array.getD_eq_getD_getElem?, List.getElem?_toArray, List.getElem?_cons_zero, List.getElem?_cons_succ, Option.getD_some]
        refine wpL_take hOps hS (v := ?vOp52) rfl (fun _ _ _ h => h) (yl rfl ?yOp52) ?_
        case yOp52 => (intro w hw; go_simp; first | done | rfl)
        simp only [Act.put, Act.eval, List.setIfInBounds_toArray, List.set_cons_zero, List.set_cons_succ, Array.getD_eq_getD_getElem?, List.getElem?_toArray, List.getElem?_cons_zero, List.getElem?_cons_succ, Option.getD_some]
        refine wpL_take hOps hS rfl (fun _ _ _ h => h) (yl_get rfl _ _ rfl rfl (by kernel_rfl) ac1) ?_
        simp only [Act.put, Act.eval, List.setIfInBounds_toArray, List.set_cons_zero, List.set_cons_succ, Array.getD_eq_getD_getElem?, List.getElem?_toArray, List.getElem?_cons_zero, List.getElem?_cons_succ, Option.getD_some]
        refine wpL_next hOps rfl rfl ?_
        intro K hK
        refine wp_call _ _ _ rfl Try.func13 rfl (by kernel_rfl) ?_
        simp only [List.map_toArray, List.map_cons, List.map_nil, Act.eval, Array.getD_eq_getD_getElem?, List.getElem?_toArray, List.getElem?_cons_zero, List.getElem?_cons_succ, Option.getD_some]
        refine (hadd _ _ H).mono ?_; rintro e w' ⟨rfl, H⟩
        have hS := (H.mask [])
        refine hK _ _ hS ?_
        clear hK K
        simp only [Act.put, Act.eval, List.setIfInBounds_toArray, List.set_cons_zero, List.set_cons_succ, Array.getD_eq_getD_getElem?, List.getElem?_toArray, List.getElem?_cons_zero, List.getElem?_cons_succ, Option.getD_some]
        refine wpL_next hOps rfl rfl ?_
        intro K hK
        refine wp_call _ _ _ rfl Try.func14 rfl (by kernel_rfl) ?_
        simp only [List.map_toArray, List.map_cons, List.map_nil, Act.eval, Array.getD_eq_getD_getElem?, List.getElem?_toArray, List.getElem?_cons_zero, List.getElem?_cons_succ, Option.getD_some]
        refine (hradd _ _ (H.pull 1 rfl)).mono ?_; rintro e w' ⟨rfl, H⟩
        have hS := (H.mask [])
        refine hK _ _ hS ?_
        clear hK K
        simp only [Act.put, Act.eval, List.setIfInBounds_toArray, List.set_cons_zero, List.set_cons_succ, Array.getD_eq_getD_getElem?, List.getElem?_toArray, List.getElem?_cons_zero, List.getElem?_cons_succ, Option.getD_some]
        obtain ⟨ra, rc, H⟩ := rsk_open H
        replace H : At w (skw p D :: raw q #[.slice ra (len D) rc] 31 :: row64 (.slice ra (len D) rc) (last D) :: []) w' := (H.pull 2 rfl)
        refine wpL_up (S' := At w (skw p D :: raw q #[.slice ra (len D) rc] 31 :: row64 (.slice ra (len D) rc) (last D) :: [])) (fun w h => h.mask []) ?_
        replace hS := H
        refine wpL_take hOps hS (v := ?vOp64) rfl (fun _ _ _ h => h) (yl rfl ?yOp64) ?_
        case yOp64 => (intro w hw; go_simp; first | done | rfl)
        simp only [Act.put, Act.eval, List.setIfInBounds_toArray, List.set_cons_zero, List.set_cons_succ, Array.getD_eq_getD_getElem?, List.getElem?_toArray, List.getElem?_cons_zero, List.getElem?_cons_succ, Option.getD_some]
        refine wpL_take hOps hS rfl (fun _ _ _ h => h) (yl_move rfl _ rfl) ?_
        simp only [Act.put, Act.eval, List.setIfInBounds_toArray, List.set_cons_zero, List.set_cons_succ, Array.getD_eq_getD_getElem?, List.getElem?_toArray, List.getElem?_cons_zero, List.getElem?_cons_succ, Option.getD_some]
        refine wpL_take hOps hS rfl (fun _ _ _ h => h) (yl_move rfl _ rfl) ?_
        simp only [Act.put, Act.eval, List.setIfInBounds_toArray, List.set_cons_zero, List.set_cons_succ, Array.getD_eq_getD_getElem?, List.getElem?_toArray, List.getElem?_cons_zero, List.getElem?_cons_succ, Option.getD_some]
        refine wpL_take hOps hS rfl (fun _ _ _ h => h) (yl_move rfl _ rfl) ?_
        simp only [Act.put, Act.eval, List.setIfInBounds_toArray, List.set_cons_zero, List.set_cons_succ, Array.getD_eq_getD_getElem?, List.getElem?_toArray, List.getElem?_cons_zero, List.getElem?_cons_succ, Option.getD_some]
        refine wpL_take hOps hS rfl (fun _ _ _ h => h) (yl_nil rfl _ rfl _ rfl) ?_
        simp only [Act.put, Act.eval, List.setIfInBounds_toArray, List.set_cons_zero, List.set_cons_succ, Array.getD_eq_getD_getElem?, List.getElem?_toArray, List.getElem?_cons_zero, List.getElem?_cons_succ, Option.getD_some]
        refine wpL_take hOps hS (v := ?vOp78) rfl (fun _ _ _ h => h) (yl rfl ?yOp78) ?_
        case yOp78 => (intro w hw; go_simp; first | done | rfl)
        simp only [Act.put, Act.eval, List.setIfInBounds_toArray, List.set_cons_zero, List.set_cons_succ, Array.getD_eq_getD_getElem?, List.getElem?_toArray, List.getElem?_cons_zero, List.getElem?_cons_succ, Option.getD_some]
        refine wpL_take hOps hS rfl (fun _ _ _ h => h) (yl_get rfl _ _ rfl rfl (by kernel_rfl) (fun w hw => raw_at1 (At.heap hw 1 rfl) rfl)) ?_
        simp only [Act.put, Act.eval, List.setIfInBounds_toArray, List.set_cons_zero, List.set_cons_succ, Array.getD_eq_getD_getElem?, List.getElem?_toArray, List.getElem?_cons_zero, List.getElem?_cons_succ, Option.getD_some]
        refine wpL_take hOps hS (v := ?vOp82) rfl (fun _ _ _ h => h) (yl rfl ?yOp82) ?_
        case yOp82 => (intro w hw; go_simp; first | done | rfl)
        simp only [Act.put, Act.eval, List.setIfInBounds_toArray, List.set_cons_zero, List.set_cons_succ, Array.getD_eq_getD_getElem?, List.getElem?_toArray, List.getElem?_cons_zero, List.getElem?_cons_succ, Option.getD_some]
        refine wpL_next hOps rfl rfl ?_
        intro K hK
        refine wp_call _ _ _ rfl Try.func15 rfl (by kernel_rfl) ?_
        simp only [List.map_toArray, List.map_cons, List.map_nil, Act.eval, Array.getD_eq_getD_getElem?, List.getElem?_toArray, List.getElem?_cons_zero, List.getElem?_cons_succ, Option.getD_some]
        refine (ln_c H).mono ?_; rintro e w' ⟨rfl, H⟩
        have hS := (H)
        refine hK _ _ hS ?_
        clear hK K
        simp only [Act.put, Act.eval, List.setIfInBounds_toArray, List.set_cons_zero, List.set_cons_succ, Array.getD_eq_getD_getElem?, List.getElem?_toArray, List.getElem?_cons_zero, List.getElem?_cons_succ, Option.getD_some]
        refine wpL_take hOps hS (v := ?vOp88) rfl (fun _ _ _ h => h) (yl rfl ?yOp88) ?_
        case yOp88 => (intro w hw; go_simp; first | done | rfl)
        simp only [Act.put, Act.eval, List.setIfInBounds_toArray, List.set_cons_zero, List.set_cons_succ, Array.getD_eq_getD_getElem?, List.getElem?_toArray, List.getElem?_cons_zero, List.getElem?_cons_succ, Option.getD_some]
        refine wpL_take hOps hS (v := ?vOp90) rfl (fun _ _ _ h => h) (yl rfl ?yOp90) ?_
        case yOp90 => (intro w hw; go_simp; first | done | rfl)
        simp only [Act.put, Act.eval, List.setIfInBounds_toArray, List.set_cons_zero, List.set_cons_succ, Array.getD_eq_getD_getElem?, List.getElem?_toArray, List.getElem?_cons_zero, List.getElem?_cons_succ, Option.getD_some]
        refine wpL_end ?_
        clear hOps hS ops
        go_wp2_with fail
        refine (bd_c H).mono ?_; rintro e w' ⟨rfl, H⟩
        go_wp2_with fail
        refine (md_c H).mono ?_; rintro e w' ⟨rfl, H⟩
        by_cases h0 : 0 < len D
        · have h0' : (0 : Int) < len D := by omega
          obtain ⟨k, hk⟩ : ∃ k, len D - 1 = k := ⟨_, rfl⟩
          obtain ⟨k2, hk2⟩ : ∃ k2, (len D - 1) / 2 = k2 := ⟨_, rfl⟩
          have e1 : (len D : Int) - 1 = (k : Int) := by omega
          have e2 : ¬ (k : Int) < 0 := by omega
          have e3 : (k : Int).tdiv 2 = (k2 : Int) := by rw [Int.tdiv_eq_ediv_of_nonneg (by omega)]; omega
          have hk16 : (k : Int) ≤ 16 := by have := len_le D; omega
          have hh : has D = true := by rw [has_eq]; exact decide_eq_true h0'
          go_wp2_with ((with_reducible refine wpList_op rfl ?_); intro _ hK; refine wp_get _ _ rfl rfl (by kernel_rfl) (raw_at1 (H.heap 1 rfl) rfl) (hK _ _ ?_))
          have H := rsk_shut (L := last D) ((H.pull 2 rfl).pull 2 rfl)
          refine (nlo_c H).mono ?_; rintro e w' ⟨rfl, H⟩
          go_wp2_with fail
          refine (nhi_c H hk).mono ?_; rintro e w' ⟨rfl, H⟩
          go_wp2_with fail
          refine (nmid_c H hk2).mono ?_; rintro e w' ⟨rfl, H⟩
          go_wp2_with fail
          first
            | (refine ⟨?_, ?measure⟩; iterate 60 (try apply Exists.intro); refine ⟨?rel, rfl⟩)
            | refine ⟨?rel, ?measure⟩
          case rel => exact ⟨j + 1, by omega, by go_num, by have := HD.out; rw [← this]; exact H.pull 1 rfl⟩
          case measure => simp [intOf]; omega
        · have h0' : (len D : Int) = 0 := by omega
          have hh : has D = false := by rw [has_eq, h0']; rfl
          go_wp2_with ((with_reducible refine wpList_op rfl ?_); intro _ hK; refine wp_get _ _ rfl rfl (by kernel_rfl) (raw_at1 (H.heap 1 rfl) rfl) (hK _ _ ?_))
          have H := rsk_shut (L := last D) ((H.pull 2 rfl).pull 2 rfl)
          refine (nlo_c H).mono ?_; rintro e w' ⟨rfl, H⟩
          go_wp2_with fail
          refine (nhi_c H (k := 0) (by omega)).mono ?_; rintro e w' ⟨rfl, H⟩
          go_wp2_with fail
          refine (nmid_c H (k := 0) (by omega)).mono ?_; rintro e w' ⟨rfl, H⟩
          go_wp2_with fail
          first
            | (refine ⟨?_, ?measure⟩; iterate 60 (try apply Exists.intro); refine ⟨?rel, rfl⟩)
            | refine ⟨?rel, ?measure⟩
          case rel => exact ⟨j + 1, by omega, by go_num, by have := HD.out; rw [← this]; exact H.pull 1 rfl⟩
          case measure => simp [intOf]; omega
      · go_wp2
        go_ret
        exact ⟨rfl, H.below⟩
    · go_wp2
      go_ret
      exact ⟨rfl, H.below⟩
theorem skewTells_own : ownKnob Try.prog.godebug = none := by kernel_rfl
theorem skewTells_laid : laidOutB Try.prog = true := by kernel_rfl
set_option maxRecDepth 100000 in
theorem skewTells_lifted (os : Os) (started : os.Started) (H : Type) (enc : TypeId × Value → H) :
    ReturnsInHanded {} Try.checked os 3 .any (Rows.skewTellsSpec.pre6 enc Try.prog Try.f3 Rows.skewTellsRow.domain false) (Rows.skewTellsSpec.post enc Try.prog Try.f3 false true false false) := by
  refine returnsInHanded_of_change (C := Try.checked) skewTells_own started (by kernel_rfl) Try.func3
    (ChangeSpec.witness6 (enc := enc) (C := Try.checked) false ⟨#[], #[.slice none 0 0], []⟩ 8 (by kernel_rfl) (by kernel_rfl) (by kernel_rfl) (by kernel_rfl)) ?_
  intro W base args ds gs before hval0 hW hcnd _
  have hval : ∀ (j : Nat) t v, Try.f3.params[j]? = some t → args[j]? = some v → Value.okWide Try.prog W .any base t v := hval0
  have hW' := hW
  obtain ⟨p, q, hA0, hV, rfl, hfz, hnd⟩ := hW
  have hA : DataW.TrodAll enc Try.prog W 0 (fun _ => true) true Try.f3.params.toList args.toList ds p := hA0
  rw [Try.params3] at hA hval
  obtain ⟨v0, vs0, d0, ds0, p0, q0, hargs, rfl, rfl, h0, r0⟩ := trodAll_cons hA
  obtain ⟨rfl, rfl, rfl⟩ := trodAll_nil r0
  obtain rfl : args = #[v0] := by cases args; simp_all
  obtain ⟨rfl, rfl⟩ := trodVars_none hV
  have k0 := h0
  have lt0 : ∀ x ∈ p0, x.block < W.heap.size := by obtain ⟨m, hm⟩ := k0; exact DataW.trod_lt m _ _ _ hm
  obtain ⟨a0_0, a0_1, a0_2, f0, rfl⟩ := open_pairs (hval 0 22 v0 rfl rfl) h0
  clear hA0 hval0
  refine (skewTells_walk a0_0 a0_1 a0_2 W f0).mono fun e W' ⟨he, bel⟩ => ?_
  subst he
  exact ⟨_, rfl, _, _, _, [], _, [], hW', trodAll_mk1 (shut_bool Try.underlying4 _), (trodAll_cons_mk (Below.trod skewTells_laid (by kernel_rfl) (of_decide_eq_true (by kernel_rfl)) k0 bel lt0) trodAll_mk0), rfl, bel.frame _, fun h => by cases h⟩
theorem skewTells_holds : Rows.SkewTellsSaid :=
  OpenClaim.holds_of_wide 3 Try.f3 rfl rfl rfl rfl rfl rfl rfl ⟨rfl, rfl, rfl, rfl, rfl⟩ rfl rfl rfl rfl rfl (by kernel_rfl) Try.func3 (by kernel_rfl)
    (of_decide_eq_true (by kernel_rfl)) (by unfold Func.isWrapper; first | (rw [if_pos (by decide +kernel)]; kernel_rfl) | (rw [if_neg (by decide +kernel)]; exact ⟨rfl, rfl⟩))
    (fun os started H enc _ => skewTells_lifted os started H enc)
#print axioms skewTells_holds
end Go.Proofs.Ythhmgodnmgmjdaa
