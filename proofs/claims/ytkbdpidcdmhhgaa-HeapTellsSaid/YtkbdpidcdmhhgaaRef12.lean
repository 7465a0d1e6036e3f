/-
  The document's answer for the heap: a row, in the order in which things went in; each of its methods answers as the heap does.
-/
import Derived.Test.YtkbdpidcdmhhgaaHeapOps
import Derived.Test.YtkbdpidcdmhhgaaTree
import Derived.Test.YtkbdpidcdmhhgaaCut
namespace Go.Proofs.Ytkbdpidcdmhhgaa
open Go.ChangeShapes Go.WideShapes Go.RowKit Go.Hg
set_option linter.unusedSimpArgs false
set_option linter.unusedVariables false
theorem under_RThings : Try.prog.underlying 39 = some (.slice 43) := by kernel_rfl
theorem el_rt : El Try.prog 43 3 24 (thC .i64) := ⟨⟨.agg #[.int .u64 0, .int .u64 0, .int .i64 0], by kernel_rfl, rfl⟩, fun _ => rfl, fun x u hu => by simp [thC] at hu; rcases hu with rfl | rfl | rfl <;> rfl⟩
theorem info_RThing : (Try.prog.info? 43).map (fun i => (i.zero, i.size, i.bytes)) = some (some (.agg #[.int .u64 0, .int .u64 0, .int .i64 0]), 3, 24) := by kernel_rfl
/-- The document's heap. -/
def rheap (q : Nat) (most nx : Int) (T : List Thing) : SP := fun h => ∃ a c, seps [raw q #[.int .i64 most, .slice a T.length c, .int .u64 nx] 41, lrow 43 3 (thC .i64) (.slice a T.length c) T] h
theorem rheap_open {w0 w : World} {F : List SP} {q : Nat} {most nx : Int} {T : List Thing} (H : At w0 (rheap q most nx T :: F) w) : ∃ a c, At w0 (raw q #[.int .i64 most, .slice a T.length c, .int .u64 nx] 41 :: lrow 43 3 (thC .i64) (.slice a T.length c) T :: F) w := by
  obtain ⟨b, h, ⟨h1, h2, ⟨a, c, s⟩, q', r⟩, t, u⟩ := H
  exact ⟨a, c, b, h, seps_join [raw q #[.int .i64 most, .slice a T.length c, .int .u64 nx] 41, lrow 43 3 (thC .i64) (.slice a T.length c) T] h ⟨h1, h2, s, q', r⟩, t, u⟩
theorem rheap_shut {w0 w : World} {F : List SP} {q : Nat} {most nx : Int} {T : List Thing} {a : Option Addr} {c : Nat} (H : At w0 (raw q #[.int .i64 most, .slice a T.length c, .int .u64 nx] 41 :: lrow 43 3 (thC .i64) (.slice a T.length c) T :: F) w) : At w0 (rheap q most nx T :: F) w :=
  H.imp fun h s => sep_mono (seps_split [raw q #[.int .i64 most, .slice a T.length c, .int .u64 nx] 41, lrow 43 3 (thC .i64) (.slice a T.length c) T] h s) (fun _ s => ⟨a, c, s⟩) (fun _ s => s)
attribute [irreducible] rheap
set_option maxRecDepth 10000 in
set_option maxHeartbeats 400000 in
theorem rnew_c {w0 w : World} {F : List SP} (H : At w0 F w) (z : Int) :
    Calls Try.prog 11 #[.int .i64 z] w fun e w' => ∃ p, e = .returned (.pointer (some ⟨p, 0, none⟩)) ∧ At w0 (rheap p (max z 1) 0 [] :: F) w' := by
  by_cases hz : z < 1
  · rw [show max z 1 = 1 by omega]
    go_enter Try.func11, Try.ntmps11
    go_wp2_with ((with_reducible refine wpList_op rfl ?_); intro _ hK; refine wp_box_sl (v := .agg #[.int .i64 1, .slice none 0 0, .int .u64 0]) 41 _ rfl rfl H (fun p w' (H : At w0 (raw p #[.int .i64 1, .slice none 0 0, .int .u64 0] 41 :: F) w') _ => hK _ _ ?_))
    go_ret
    exact ⟨p, rfl, rheap_shut (a := none) (c := 0) ((lrow_nil H (thC .i64) 43 3).pull 1 rfl)⟩
  · rw [show max z 1 = z by omega]
    go_enter Try.func11, Try.ntmps11
    go_wp2_with ((with_reducible refine wpList_op rfl ?_); intro _ hK; refine wp_box_sl (v := .agg #[.int .i64 z, .slice none 0 0, .int .u64 0]) 41 _ rfl rfl H (fun p w' (H : At w0 (raw p #[.int .i64 z, .slice none 0 0, .int .u64 0] 41 :: F) w') _ => hK _ _ ?_))
    go_ret
    exact ⟨p, rfl, rheap_shut (a := none) (c := 0) ((lrow_nil H (thC .i64) 43 3).pull 1 rfl)⟩
set_option maxRecDepth 10000 in
set_option maxHeartbeats 1000000 in
theorem rpush_full {w0 w : World} {F : List SP} {q : Nat} {most nx : Int} {T : List Thing} (H : At w0 (rheap q most nx T :: F) w) (t x : Int) (h0 : most ≤ (T.length : Int)) :
    Calls Try.prog 13 #[.pointer (some ⟨q, 0, none⟩), .int .u64 t, .int .i64 x] w fun e w' => e = .returned (.tuple #[.int .u64 0, .int .i64 8]) ∧ At w0 (rheap q most nx T :: F) w' := by
  obtain ⟨a, c, H2⟩ := rheap_open H
  clear H
  go_enter Try.func13, Try.ntmps13
  go_wp2_with fail
  refine wpL_begin 10 (At w0 (raw q #[.int .i64 most, .slice a T.length c, .int .u64 nx] 41 :: lrow 43 3 (thC .i64) (.slice a T.length c) T :: F)) [(0, true), (1, true), (2, true), (3, true), (4, true), (5, true), (6, true), (7, true), (8, true), (9, true)] rfl (by kernel_rfl) (by kernel_rfl) ((H2.drew)) ?_
  intro ops hOps hS
  replace H2 := H2.drew
  refine wpL_take hOps hS rfl (fun _ _ _ h => h) (yl_move rfl _ rfl) ?_
  simp only [Act.put, Act.eval, List.setIfInBounds_toArray, List.set_cons_zero, List.set_cons_succ, Array.getD_eq_getD_getElem?, List.getElem?_toArray, List.getElem?_cons_zero, List.getElem?_cons_succ, Option.getD_some]
  refine wpL_take hOps hS rfl (fun _ _ _ h => h) (yl_nil rfl _ rfl _ rfl) ?_
  simp only [Act.put, Act.eval, List.setIfInBounds_toArray, List.set_cons_zero, List.set_cons_succ, Array.getD_eq_getD_getElem?, List.getElem?_toArray, List.getElem?_cons_zero, List.getElem?_cons_succ, Option.getD_some]
  refine wpL_take hOps hS (v := ?vOp9) rfl (fun _ _ _ h => h) (yl rfl ?yOp9) ?_
  case yOp9 => (intro w hw; go_simp; first | done | rfl)
  simp only [Act.put, Act.eval, List.setIfInBounds_toArray, List.set_cons_zero, List.set_cons_succ, Array.getD_eq_getD_getElem?, List.getElem?_toArray, List.getElem?_cons_zero, List.getElem?_cons_succ, Option.getD_some]
  refine wpL_take hOps hS rfl (fun _ _ _ h => h) (yl_get rfl _ _ rfl rfl (by kernel_rfl) (fun w hw => raw_at (At.heap hw 0 rfl) rfl)) ?_
  simp only [Act.put, Act.eval, List.setIfInBounds_toArray, List.set_cons_zero, List.set_cons_succ, Array.getD_eq_getD_getElem?, List.getElem?_toArray, List.getElem?_cons_zero, List.getElem?_cons_succ, Option.getD_some]
  refine wpL_take hOps hS (v := ?vOp13) rfl (fun _ _ _ h => h) (yl rfl ?yOp13) ?_
  case yOp13 => (intro w hw; go_simp; first | done | rfl)
  simp only [Act.put, Act.eval, List.setIfInBounds_toArray, List.set_cons_zero, List.set_cons_succ, Array.getD_eq_getD_getElem?, List.getElem?_toArray, List.getElem?_cons_zero, List.getElem?_cons_succ, Option.getD_some]
  refine wpL_take hOps hS rfl (fun _ _ _ h => h) (yl_move rfl _ rfl) ?_
  simp only [Act.put, Act.eval, List.setIfInBounds_toArray, List.set_cons_zero, List.set_cons_succ, Array.getD_eq_getD_getElem?, List.getElem?_toArray, List.getElem?_cons_zero, List.getElem?_cons_succ, Option.getD_some]
  refine wpL_take hOps hS rfl (fun _ _ _ h => h) (yl_nil rfl _ rfl _ rfl) ?_
  simp only [Act.put, Act.eval, List.setIfInBounds_toArray, List.set_cons_zero, List.set_cons_succ, Array.getD_eq_getD_getElem?, List.getElem?_toArray, List.getElem?_cons_zero, List.getElem?_cons_succ, Option.getD_some]
  refine wpL_take hOps hS (v := ?vOp21) rfl (fun _ _ _ h => h) (yl rfl ?yOp21) ?_
  case yOp21 => (intro w hw; go_simp; first | done | rfl)
  simp only [Act.put, Act.eval, List.setIfInBounds_toArray, List.set_cons_zero, List.set_cons_succ, Array.getD_eq_getD_getElem?, List.getElem?_toArray, List.getElem?_cons_zero, List.getElem?_cons_succ, Option.getD_some]
  refine wpL_take hOps hS rfl (fun _ _ _ h => h) (yl_get rfl _ _ rfl rfl (by kernel_rfl) (fun w hw => raw_at (At.heap hw 0 rfl) rfl)) ?_
  simp only [Act.put, Act.eval, List.setIfInBounds_toArray, List.set_cons_zero, List.set_cons_succ, Array.getD_eq_getD_getElem?, List.getElem?_toArray, List.getElem?_cons_zero, List.getElem?_cons_succ, Option.getD_some]
  refine wpL_take hOps hS (v := ?vOp25) rfl (fun _ _ _ h => h) (yl rfl ?yOp25) ?_
  case yOp25 => (intro w hw; go_simp; first | done | rfl)
  simp only [Act.put, Act.eval, List.setIfInBounds_toArray, List.set_cons_zero, List.set_cons_succ, Array.getD_eq_getD_getElem?, List.getElem?_toArray, List.getElem?_cons_zero, List.getElem?_cons_succ, Option.getD_some]
  refine wpL_end ?_
  clear hOps hS ops
  go_wp2
  go_ret2
  exact ⟨rfl, rheap_shut H2⟩
set_option maxRecDepth 10000 in
set_option maxHeartbeats 2000000 in
theorem rpush_room {w0 w : World} {F : List SP} {q : Nat} {most nx : Int} {T : List Thing} (H : At w0 (rheap q most nx T :: F) w) (t x : Int) (h0 : (T.length : Int) < most) (hn0 : 0 ≤ nx) (hn1 : nx + 1 < 18446744073709551616) (hT : T.length ≤ 999999) :
    Calls Try.prog 13 #[.pointer (some ⟨q, 0, none⟩), .int .u64 t, .int .i64 x] w fun e w' => e = .returned (.tuple #[.int .u64 nx, .int .i64 0]) ∧ At w0 (rheap q most (nx + 1) (T ++ [(t, nx, x)]) :: F) w' := by
  obtain ⟨a, c, H2⟩ := rheap_open H
  have hl7 : ¬ most ≤ (T.length : Int) := by omega
  clear H
  go_enter Try.func13, Try.ntmps13
  go_wp2_with fail
  refine wpL_begin 10 (At w0 (raw q #[.int .i64 most, .slice a T.length c, .int .u64 nx] 41 :: lrow 43 3 (thC .i64) (.slice a T.length c) T :: F)) [(0, true), (1, true), (2, true), (3, true), (4, true), (5, true), (6, true), (7, true), (8, true), (9, true)] rfl (by kernel_rfl) (by kernel_rfl) ((H2.drew)) ?_
  intro ops hOps hS
  replace H2 := H2.drew
  refine wpL_take hOps hS rfl (fun _ _ _ h => h) (yl_move rfl _ rfl) ?_
  simp only [Act.put, Act.eval, List.setIfInBounds_toArray, List.set_cons_zero, List.set_cons_succ, Array.getD_eq_getD_getElem?, List.getElem?_toArray, List.getElem?_cons_zero, List.getElem?_cons_succ, Option.getD_some]
  refine wpL_take hOps hS rfl (fun _ _ _ h => h) (yl_nil rfl _ rfl _ rfl) ?_
  simp only [Act.put, Act.eval, List.setIfInBounds_toArray, List.set_cons_zero, List.set_cons_succ, Array.getD_eq_getD_getElem?, List.getElem?_toArray, List.getElem?_cons_zero, List.getElem?_cons_succ, Option.getD_some]
  refine wpL_take hOps hS (v := ?vOp36) rfl (fun _ _ _ h => h) (yl rfl ?yOp36) ?_
  case yOp36 => (intro w hw; go_simp; first | done | rfl)
  simp only [Act.put, Act.eval, List.setIfInBounds_toArray, List.set_cons_zero, List.set_cons_succ, Array.getD_eq_getD_getElem?, List.getElem?_toArray, List.getElem?_cons_zero, List.getElem?_cons_succ, Option.getD_some]
  refine wpL_take hOps hS rfl (fun _ _ _ h => h) (yl_get rfl _ _ rfl rfl (by kernel_rfl) (fun w hw => raw_at (At.heap hw 0 rfl) rfl)) ?_
  simp only [Act.put, Act.eval, List.setIfInBounds_toArray, List.set_cons_zero, List.set_cons_succ, Array.getD_eq_getD_getElem?, List.getElem?_toArray, List.getElem?_cons_zero, List.getElem?_cons_succ, Option.getD_some]
  refine wpL_take hOps hS (v := ?vOp40) rfl (fun _ _ _ h => h) (yl rfl ?yOp40) ?_
  case yOp40 => (intro w hw; go_simp; first | done | rfl)
  simp only [Act.put, Act.eval, List.setIfInBounds_toArray, List.set_cons_zero, List.set_cons_succ, Array.getD_eq_getD_getElem?, List.getElem?_toArray, List.getElem?_cons_zero, List.getElem?_cons_succ, Option.getD_some]
  refine wpL_take hOps hS rfl (fun _ _ _ h => h) (yl_move rfl _ rfl) ?_
  simp only [Act.put, Act.eval, List.setIfInBounds_toArray, List.set_cons_zero, List.set_cons_succ, Array.getD_eq_getD_getElem?, List.getElem?_toArray, List.getElem?_cons_zero, List.getElem?_cons_succ, Option.getD_some]
  refine wpL_take hOps hS rfl (fun _ _ _ h => h) (yl_nil rfl _ rfl _ rfl) ?_
  simp only [Act.put, Act.eval, List.setIfInBounds_toArray, List.set_cons_zero, List.set_cons_succ, Array.getD_eq_getD_getElem?, List.getElem?_toArray, List.getElem?_cons_zero, List.getElem?_cons_succ, Option.getD_some]
  refine wpL_take hOps hS (v := ?vOp48) rfl (fun _ _ _ h => h) (yl rfl ?yOp48) ?_
  case yOp48 => (intro w hw; go_simp; first | done | rfl)
  simp only [Act.put, Act.eval, List.setIfInBounds_toArray, List.set_cons_zero, List.set_cons_succ, Array.getD_eq_getD_getElem?, List.getElem?_toArray, List.getElem?_cons_zero, List.getElem?_cons_succ, Option.getD_some]
  refine wpL_take hOps hS rfl (fun _ _ _ h => h) (yl_get rfl _ _ rfl rfl (by kernel_rfl) (fun w hw => raw_at (At.heap hw 0 rfl) rfl)) ?_
  simp only [Act.put, Act.eval, List.setIfInBounds_toArray, List.set_cons_zero, List.set_cons_succ, Array.getD_eq_getD_getElem?, List.getElem?_toArray, List.getElem?_cons_zero, List.getElem?_cons_succ, Option.getD_some]
  refine wpL_take hOps hS (v := ?vOp52) rfl (fun _ _ _ h => h) (yl rfl ?yOp52) ?_
  case yOp52 => (intro w hw; go_simp; first | done | rfl)
  simp only [Act.put, Act.eval, List.setIfInBounds_toArray, List.set_cons_zero, List.set_cons_succ, Array.getD_eq_getD_getElem?, List.getElem?_toArray, List.getElem?_cons_zero, List.getElem?_cons_succ, Option.getD_some]
  refine wpL_end ?_
  clear hOps hS ops
  go_wp2_with fail
  refine wpT_begin [18] ((At w0 (raw q #[.int .i64 most, .slice a T.length c, .int .u64 nx] 41 :: lrow 43 3 (thC .i64) (.slice a T.length c) T :: F))) (Tr.of [(0, 2), (2, 2), (3, 2), (4, 2), (5, 1), (7, 2), (8, 2), (9, 2), (10, 2), (11, 1), (12, 2), (13, 2)] (.two 1 14 (.two 6 14 (Tr.of [(14, 0), (15, 0), (16, 2), (17, 2), (18, 0)] .nil) (Tr.of [(6, 0), (15, 0), (16, 2), (17, 2), (18, 0)] .nil)) (Tr.of [(1, 0), (6, 0), (15, 0), (16, 2), (17, 2), (18, 0)] .nil))) rfl (by kernel_rfl) (by kernel_rfl) ((H2.drew)) ?_
  intro ops hOps hS
  have H := H2.drew
  clear H2
  refine wpT_free hOps rfl (fun _ _ _ h => h) (yl_move rfl _ rfl) ?_
  simp only [Act.put, Act.eval, List.setIfInBounds_toArray, List.set_cons_zero, List.set_cons_succ, Array.getD_eq_getD_getElem?, List.getElem?_toArray, List.getElem?_cons_zero, List.getElem?_cons_succ, Option.getD_some]
  refine wpT_free hOps rfl (fun _ _ _ h => h) (yl_move rfl _ rfl) ?_
  simp only [Act.put, Act.eval, List.setIfInBounds_toArray, List.set_cons_zero, List.set_cons_succ, Array.getD_eq_getD_getElem?, List.getElem?_toArray, List.getElem?_cons_zero, List.getElem?_cons_succ, Option.getD_some]
  refine wpT_free hOps rfl (fun _ _ _ h => h) (yl_nil rfl _ rfl _ rfl) ?_
  simp only [Act.put, Act.eval, List.setIfInBounds_toArray, List.set_cons_zero, List.set_cons_succ, Array.getD_eq_getD_getElem?, List.getElem?_toArray, List.getElem?_cons_zero, List.getElem?_cons_succ, Option.getD_some]
  refine wpT_free hOps (v := ?vOp65) rfl (fun _ _ _ h => h) (yl rfl ?yOp65) ?_
  case yOp65 => (intro w hw; go_simp; first | done | rfl)
  simp only [Act.put, Act.eval, List.setIfInBounds_toArray, List.set_cons_zero, List.set_cons_succ, Array.getD_eq_getD_getElem?, List.getElem?_toArray, List.getElem?_cons_zero, List.getElem?_cons_succ, Option.getD_some]
  refine wpT_take hOps hS rfl (fun _ _ _ h => h) (yl_get rfl _ _ rfl rfl (by kernel_rfl) (fun w hw => raw_at (At.heap hw 0 rfl) rfl)) ?_
  simp only [Act.put, Act.eval, List.setIfInBounds_toArray, List.set_cons_zero, List.set_cons_succ, Array.getD_eq_getD_getElem?, List.getElem?_toArray, List.getElem?_cons_zero, List.getElem?_cons_succ, Option.getD_some]
  refine wpT_free hOps rfl (fun _ _ _ h => h) (yl_move rfl _ rfl) ?_
  simp only [Act.put, Act.eval, List.setIfInBounds_toArray, List.set_cons_zero, List.set_cons_succ, Array.getD_eq_getD_getElem?, List.getElem?_toArray, List.getElem?_cons_zero, List.getElem?_cons_succ, Option.getD_some]
  refine wpT_free hOps rfl (fun _ _ _ h => h) (yl_move rfl _ rfl) ?_
  simp only [Act.put, Act.eval, List.setIfInBounds_toArray, List.set_cons_zero, List.set_cons_succ, Array.getD_eq_getD_getElem?, List.getElem?_toArray, List.getElem?_cons_zero, List.getElem?_cons_succ, Option.getD_some]
  refine wpT_free hOps rfl (fun _ _ _ h => h) (yl_nil rfl _ rfl _ rfl) ?_
  simp only [Act.put, Act.eval, List.setIfInBounds_toArray, List.set_cons_zero, List.set_cons_succ, Array.getD_eq_getD_getElem?, List.getElem?_toArray, List.getElem?_cons_zero, List.getElem?_cons_succ, Option.getD_some]
  refine wpT_free hOps (v := ?vOp78) rfl (fun _ _ _ h => h) (yl rfl ?yOp78) ?_
  case yOp78 => (intro w hw; go_simp; first | done | rfl)
  simp only [Act.put, Act.eval, List.setIfInBounds_toArray, List.set_cons_zero, List.set_cons_succ, Array.getD_eq_getD_getElem?, List.getElem?_toArray, List.getElem?_cons_zero, List.getElem?_cons_succ, Option.getD_some]
  refine wpT_take hOps hS rfl (fun _ _ _ h => h) (yl_get rfl _ _ rfl rfl (by kernel_rfl) (fun w hw => raw_at (At.heap hw 0 rfl) rfl)) ?_
  simp only [Act.put, Act.eval, List.setIfInBounds_toArray, List.set_cons_zero, List.set_cons_succ, Array.getD_eq_getD_getElem?, List.getElem?_toArray, List.getElem?_cons_zero, List.getElem?_cons_succ, Option.getD_some]
  refine wpT_free hOps rfl (fun _ _ _ h => h) (yl_move rfl _ rfl) ?_
  simp only [Act.put, Act.eval, List.setIfInBounds_toArray, List.set_cons_zero, List.set_cons_succ, Array.getD_eq_getD_getElem?, List.getElem?_toArray, List.getElem?_cons_zero, List.getElem?_cons_succ, Option.getD_some]
  refine wpT_free hOps (v := ?vOp85) rfl (fun _ _ _ h => h) (yl rfl ?yOp85) ?_
  case yOp85 => (intro w hw; go_simp; first | done | rfl)
  simp only [Act.put, Act.eval, List.setIfInBounds_toArray, List.set_cons_zero, List.set_cons_succ, Array.getD_eq_getD_getElem?, List.getElem?_toArray, List.getElem?_cons_zero, List.getElem?_cons_succ, Option.getD_some]
  refine wpT_two hOps rfl rfl rfl rfl ?_ ?_
  all_goals intro K hK
  · refine wp_lnew el_rt _ under_RThings rfl H (fun B w' H => ?_)
    have hS := (H.tail)
    refine hK _ _ (.inr hS) ?_
    clear hK K
    simp only [Act.put, Act.eval, List.setIfInBounds_toArray, List.set_cons_zero, List.set_cons_succ, Array.getD_eq_getD_getElem?, List.getElem?_toArray, List.getElem?_cons_zero, List.getElem?_cons_succ, Option.getD_some]
    refine wpT_two hOps rfl rfl rfl rfl ?_ ?_
    all_goals intro K hK
    · refine wp_lapp_all el_rt (xs := []) (ys := T) _ under_RThings _ _ rfl rfl H rfl 1 rfl (by simp [maxLen]; omega) (by simp; omega) (fun b1 c1 w' H => ?_)
      have hS := (H.tail)
      refine hK _ _ (.inr hS) ?_
      clear hK K
      simp only [Act.put, Act.eval, List.setIfInBounds_toArray, List.set_cons_zero, List.set_cons_succ, Array.getD_eq_getD_getElem?, List.getElem?_toArray, List.getElem?_cons_zero, List.getElem?_cons_succ, Option.getD_some]
      refine wpT_next hOps rfl rfl ?_
      intro K hK
      refine wp_lbuild el_rt (y := (t, nx, x)) _ under_RThings _ rfl rfl rfl (by omega) (by omega) H (fun C w' H => ?_)
      replace H := H.pull 1 rfl
      have hS := (H.tail.tail)
      refine hK _ _ (.inr hS) ?_
      clear hK K
      simp only [Act.put, Act.eval, List.setIfInBounds_toArray, List.set_cons_zero, List.set_cons_succ, Array.getD_eq_getD_getElem?, List.getElem?_toArray, List.getElem?_cons_zero, List.getElem?_cons_succ, Option.getD_some]
      refine wpT_next hOps rfl rfl ?_
      intro K hK
      refine wp_lapp_one el_rt (y := (t, nx, x)) _ under_RThings _ _ rfl rfl H rfl 0 rfl rfl (by simp [maxLen]; omega) (by simp; omega) (fun bb cc w' H => ?_)
      have hS := (H.tail.tail)
      refine hK _ _ (.inr hS) ?_
      clear hK K
      simp only [Act.put, Act.eval, List.setIfInBounds_toArray, List.set_cons_zero, List.set_cons_succ, Array.getD_eq_getD_getElem?, List.getElem?_toArray, List.getElem?_cons_zero, List.getElem?_cons_succ, Option.getD_some]
      refine wpT_free hOps rfl (fun _ _ _ h => h) (yl_nil rfl _ rfl _ rfl) ?_
      simp only [Act.put, Act.eval, List.setIfInBounds_toArray, List.set_cons_zero, List.set_cons_succ, Array.getD_eq_getD_getElem?, List.getElem?_toArray, List.getElem?_cons_zero, List.getElem?_cons_succ, Option.getD_some]
      refine wpT_free hOps (v := ?vOp103) rfl (fun _ _ _ h => h) (yl rfl ?yOp103) ?_
      case yOp103 => (intro w hw; go_simp; first | done | rfl)
      simp only [Act.put, Act.eval, List.setIfInBounds_toArray, List.set_cons_zero, List.set_cons_succ, Array.getD_eq_getD_getElem?, List.getElem?_toArray, List.getElem?_cons_zero, List.getElem?_cons_succ, Option.getD_some]
      refine wpT_next hOps rfl rfl ?_
      intro K hK
      refine wp_store_sl _ _ _ rfl rfl rfl (by kernel_rfl) rfl 2 H rfl (by simp) fun w' H => ?_
      refine hK _ _ (.inl (by decide)) ?_
      clear hK K
      simp only [Act.put, Act.eval, List.setIfInBounds_toArray, List.set_cons_zero, List.set_cons_succ, Array.getD_eq_getD_getElem?, List.getElem?_toArray, List.getElem?_cons_zero, List.getElem?_cons_succ, Option.getD_some]
      refine wpT_end ?_
      clear hOps hS ops
      go_wp2_with ((with_reducible refine wpList_op rfl ?_); intro _ hK; first | (refine wp_get _ _ rfl rfl (by kernel_rfl) (raw_at (H.heap 2 rfl) rfl) (hK _ _ ?_)) | (refine wp_store_sl _ _ _ rfl rfl rfl (by kernel_rfl) rfl 2 H rfl (by simp) fun w' H => hK _ _ ?_))
      go_ret2
      refine ⟨rfl, ?_⟩
      have H3 : At w0 (raw q #[.int .i64 most, .slice bb (T ++ [(t, nx, x)]).length cc, .int .u64 (nx + 1)] 41 :: lrow 43 3 (thC .i64) (.slice bb (T ++ [(t, nx, x)]).length cc) (T ++ [(t, nx, x)]) :: F) w' := (H.pull 2 rfl).maskR [true, true, false, false]
      exact rheap_shut H3
    · refine wp_lbuild el_rt (y := (t, nx, x)) _ under_RThings _ rfl rfl rfl (by omega) (by omega) H (fun C w' H => ?_)
      replace H := H.pull 1 rfl
      have hS := (H.tail.tail)
      refine hK _ _ (.inr hS) ?_
      clear hK K
      simp only [Act.put, Act.eval, List.setIfInBounds_toArray, List.set_cons_zero, List.set_cons_succ, Array.getD_eq_getD_getElem?, List.getElem?_toArray, List.getElem?_cons_zero, List.getElem?_cons_succ, Option.getD_some]
      refine wpT_next hOps rfl rfl ?_
      intro K hK
      refine wp_lapp_all el_rt (xs := []) (ys := T) _ under_RThings _ _ rfl rfl H rfl 2 rfl (by simp [maxLen]; omega) (by simp; omega) (fun b1 c1 w' H => ?_)
      have hS := (H.tail.tail)
      refine hK _ _ (.inr hS) ?_
      clear hK K
      simp only [Act.put, Act.eval, List.setIfInBounds_toArray, List.set_cons_zero, List.set_cons_succ, Array.getD_eq_getD_getElem?, List.getElem?_toArray, List.getElem?_cons_zero, List.getElem?_cons_succ, Option.getD_some]
      refine wpT_next hOps rfl rfl ?_
      intro K hK
      refine wp_lapp_one el_rt (y := (t, nx, x)) _ under_RThings _ _ rfl rfl H rfl 0 rfl rfl (by simp [maxLen]; omega) (by simp; omega) (fun bb cc w' H => ?_)
      have hS := (H.tail.tail)
      refine hK _ _ (.inr hS) ?_
      clear hK K
      simp only [Act.put, Act.eval, List.setIfInBounds_toArray, List.set_cons_zero, List.set_cons_succ, Array.getD_eq_getD_getElem?, List.getElem?_toArray, List.getElem?_cons_zero, List.getElem?_cons_succ, Option.getD_some]
      refine wpT_free hOps rfl (fun _ _ _ h => h) (yl_nil rfl _ rfl _ rfl) ?_
      simp only [Act.put, Act.eval, List.setIfInBounds_toArray, List.set_cons_zero, List.set_cons_succ, Array.getD_eq_getD_getElem?, List.getElem?_toArray, List.getElem?_cons_zero, List.getElem?_cons_succ, Option.getD_some]
      refine wpT_free hOps (v := ?vOp121) rfl (fun _ _ _ h => h) (yl rfl ?yOp121) ?_
      case yOp121 => (intro w hw; go_simp; first | done | rfl)
      simp only [Act.put, Act.eval, List.setIfInBounds_toArray, List.set_cons_zero, List.set_cons_succ, Array.getD_eq_getD_getElem?, List.getElem?_toArray, List.getElem?_cons_zero, List.getElem?_cons_succ, Option.getD_some]
      refine wpT_next hOps rfl rfl ?_
      intro K hK
      refine wp_store_sl _ _ _ rfl rfl rfl (by kernel_rfl) rfl 2 H rfl (by simp) fun w' H => ?_
      refine hK _ _ (.inl (by decide)) ?_
      clear hK K
      simp only [Act.put, Act.eval, List.setIfInBounds_toArray, List.set_cons_zero, List.set_cons_succ, Array.getD_eq_getD_getElem?, List.getElem?_toArray, List.getElem?_cons_zero, List.getElem?_cons_succ, Option.getD_some]
      refine wpT_end ?_
      clear hOps hS ops
      go_wp2_with ((with_reducible refine wpList_op rfl ?_); intro _ hK; first | (refine wp_get _ _ rfl rfl (by kernel_rfl) (raw_at (H.heap 2 rfl) rfl) (hK _ _ ?_)) | (refine wp_store_sl _ _ _ rfl rfl rfl (by kernel_rfl) rfl 2 H rfl (by simp) fun w' H => hK _ _ ?_))
      go_ret2
      refine ⟨rfl, ?_⟩
      have H3 : At w0 (raw q #[.int .i64 most, .slice bb (T ++ [(t, nx, x)]).length cc, .int .u64 (nx + 1)] 41 :: lrow 43 3 (thC .i64) (.slice bb (T ++ [(t, nx, x)]).length cc) (T ++ [(t, nx, x)]) :: F) w' := (H.pull 2 rfl).maskR [true, true, false, false]
      exact rheap_shut H3
  · refine wp_lbuild el_rt (y := (t, nx, x)) _ under_RThings _ rfl rfl rfl (by omega) (by omega) H (fun C w' H => ?_)
    have hS := (H.tail)
    refine hK _ _ (.inr hS) ?_
    clear hK K
    simp only [Act.put, Act.eval, List.setIfInBounds_toArray, List.set_cons_zero, List.set_cons_succ, Array.getD_eq_getD_getElem?, List.getElem?_toArray, List.getElem?_cons_zero, List.getElem?_cons_succ, Option.getD_some]
    refine wpT_next hOps rfl rfl ?_
    intro K hK
    refine wp_lnew el_rt _ under_RThings rfl H (fun B w' H => ?_)
    have hS := (H.tail.tail)
    refine hK _ _ (.inr hS) ?_
    clear hK K
    simp only [Act.put, Act.eval, List.setIfInBounds_toArray, List.set_cons_zero, List.set_cons_succ, Array.getD_eq_getD_getElem?, List.getElem?_toArray, List.getElem?_cons_zero, List.getElem?_cons_succ, Option.getD_some]
    refine wpT_next hOps rfl rfl ?_
    intro K hK
    refine wp_lapp_all el_rt (xs := []) (ys := T) _ under_RThings _ _ rfl rfl H rfl 2 rfl (by simp [maxLen]; omega) (by simp; omega) (fun b1 c1 w' H => ?_)
    have hS := (H.tail.tail)
    refine hK _ _ (.inr hS) ?_
    clear hK K
    simp only [Act.put, Act.eval, List.setIfInBounds_toArray, List.set_cons_zero, List.set_cons_succ, Array.getD_eq_getD_getElem?, List.getElem?_toArray, List.getElem?_cons_zero, List.getElem?_cons_succ, Option.getD_some]
    refine wpT_next hOps rfl rfl ?_
    intro K hK
    refine wp_lapp_one el_rt (y := (t, nx, x)) _ under_RThings _ _ rfl rfl H rfl 0 rfl rfl (by simp [maxLen]; omega) (by simp; omega) (fun bb cc w' H => ?_)
    have hS := (H.tail.tail)
    refine hK _ _ (.inr hS) ?_
    clear hK K
    simp only [Act.put, Act.eval, List.setIfInBounds_toArray, List.set_cons_zero, List.set_cons_succ, Array.getD_eq_getD_getElem?, List.getElem?_toArray, List.getElem?_cons_zero, List.getElem?_cons_succ, Option.getD_some]
    refine wpT_free hOps rfl (fun _ _ _ h => h) (yl_nil rfl _ rfl _ rfl) ?_
    simp only [Act.put, Act.eval, List.setIfInBounds_toArray, List.set_cons_zero, List.set_cons_succ, Array.getD_eq_getD_getElem?, List.getElem?_toArray, List.getElem?_cons_zero, List.getElem?_cons_succ, Option.getD_some]
    refine wpT_free hOps (v := ?vOp142) rfl (fun _ _ _ h => h) (yl rfl ?yOp142) ?_
    case yOp142 => (intro w hw; go_simp; first | done | rfl)
    simp only [Act.put, Act.eval, List.setIfInBounds_toArray, List.set_cons_zero, List.set_cons_succ, Array.getD_eq_getD_getElem?, List.getElem?_toArray, List.getElem?_cons_zero, List.getElem?_cons_succ, Option.getD_some]
    refine wpT_next hOps rfl rfl ?_
    intro K hK
    refine wp_store_sl _ _ _ rfl rfl rfl (by kernel_rfl) rfl 2 H rfl (by simp) fun w' H => ?_
    refine hK _ _ (.inl (by decide)) ?_
    clear hK K
    simp only [Act.put, Act.eval, List.setIfInBounds_toArray, List.set_cons_zero, List.set_cons_succ, Array.getD_eq_getD_getElem?, List.getElem?_toArray, List.getElem?_cons_zero, List.getElem?_cons_succ, Option.getD_some]
    refine wpT_end ?_
    clear hOps hS ops
    go_wp2_with ((with_reducible refine wpList_op rfl ?_); intro _ hK; first | (refine wp_get _ _ rfl rfl (by kernel_rfl) (raw_at (H.heap 2 rfl) rfl) (hK _ _ ?_)) | (refine wp_store_sl _ _ _ rfl rfl rfl (by kernel_rfl) rfl 2 H rfl (by simp) fun w' H => hK _ _ ?_))
    go_ret2
    refine ⟨rfl, ?_⟩
    have H3 : At w0 (raw q #[.int .i64 most, .slice bb (T ++ [(t, nx, x)]).length cc, .int .u64 (nx + 1)] 41 :: lrow 43 3 (thC .i64) (.slice bb (T ++ [(t, nx, x)]).length cc) (T ++ [(t, nx, x)]) :: F) w' := (H.pull 2 rfl).maskR [true, true, false, false]
    exact rheap_shut H3
/-- First: the place of the first one. -/
def firstZ (T : List Thing) (n : Nat) : Int := if n = 0 then -1 else (fku T n : Int)
theorem firstZ_zero (T : List Thing) : firstZ T 0 = -1 := rfl
theorem firstZ_pos {T : List Thing} {n : Nat} (h : 0 < n) : firstZ T n = (fku T n : Int) := by unfold firstZ; rw [if_neg (by omega)]
set_option maxRecDepth 10000 in
set_option maxHeartbeats 2000000 in
theorem rfirst_walk {w0 w : World} {F : List SP} {q : Nat} {most nx : Int} {T : List Thing} {a : Option Addr} {c : Nat} (H : At w0 (raw q #[.int .i64 most, .slice a T.length c, .int .u64 nx] 41 :: lrow 43 3 (thC .i64) (.slice a T.length c) T :: F) w) (hT : T.length ≤ 1000000) :
    Calls Try.prog 17 #[.pointer (some ⟨q, 0, none⟩)] w fun e w' => e = .returned (.int .i64 (firstZ T T.length)) ∧ At w0 (raw q #[.int .i64 most, .slice a T.length c, .int .u64 nx] 41 :: lrow 43 3 (thC .i64) (.slice a T.length c) T :: F) w' := by
  go_enter Try.func17, Try.ntmps17
  go_wp2_with fail
  go_loopw [3, 4] (fun k i wr => ∃ j : Nat, j ≤ T.length ∧ i = .int .i64 j ∧ k = .int .i64 (firstZ T j) ∧ At w0 (raw q #[.int .i64 most, .slice a T.length c, .int .u64 nx] 41 :: lrow 43 3 (thC .i64) (.slice a T.length c) T :: F) wr) (fun _ i _ => T.length - (intOf i).toNat)
  case atStart => exact ⟨0, by omega, rfl, rfl, H⟩
  case round =>
    clear H
    obtain ⟨j, hj, rfl, rfl, H⟩ := hrel
    have hc : wr.cell? ⟨q, 1, none⟩ = some (.slice a T.length c) := raw_at (H.heap 0 rfl) rfl
    by_cases hlt : (j : Int) < T.length
    · obtain ⟨gb, ob, rfl⟩ := lrow_place H 1 rfl (by omega)
      have Hj := Lib.hid (g_get (l := T) (i := j) (by omega))
      by_cases h0 : j = 0
      · subst h0
        rw [firstZ_zero]
        go_wp2_with fail
        refine wpL_begin 21 (At w0 (raw q #[.int .i64 most, .slice (some ⟨gb, ob, none⟩) T.length c, .int .u64 nx] 41 :: lrow 43 3 (thC .i64) (.slice (some ⟨gb, ob, none⟩) T.length c) T :: F)) [(0, true), (1, true), (2, true), (3, true), (4, true), (5, true), (6, true), (7, true), (8, true), (9, true), (10, true), (11, true), (12, true), (13, true), (14, true), (15, true), (16, true), (17, true), (18, true), (19, true), (20, true)] rfl (by kernel_rfl) (by kernel_rfl) ((H.drew)) ?_
        intro ops hOps hS
        replace H := H.drew
        refine wpL_take hOps hS rfl (fun _ _ _ h => h) (yl_move rfl _ rfl) ?_
        simp only [Act.put, Act.eval, List.setIfInBounds_toArray, List.set_cons_zero, List.set_cons_succ, Array.getD_eq_getD_getElem?, List.getElem?_toArray, List.getElem?_cons_zero, List.getElem?_cons_succ, Option.getD_some]
        refine wpL_take hOps hS (v := ?vOp153) rfl (fun _ _ _ h => h) (yl rfl ?yOp153) ?_
        case yOp153 => (intro w hw; go_simp; first | done | rfl)
        simp only [Act.put, Act.eval, List.setIfInBounds_toArray, List.set_cons_zero, List.set_cons_succ, Array.getD_eq_getD_getElem?, List.getElem?_toArray, List.getElem?_cons_zero, List.getElem?_cons_succ, Option.getD_some]
        refine wpL_take hOps hS rfl (fun _ _ _ h => h) (yl_move rfl _ rfl) ?_
        simp only [Act.put, Act.eval, List.setIfInBounds_toArray, List.set_cons_zero, List.set_cons_succ, Array.getD_eq_getD_getElem?, List.getElem?_toArray, List.getElem?_cons_zero, List.getElem?_cons_succ, Option.getD_some]
        refine wpL_take hOps hS rfl (fun _ _ _ h => h) (yn rfl) ?_
        simp only [Act.put, Act.eval, List.setIfInBounds_toArray, List.set_cons_zero, List.set_cons_succ, Array.getD_eq_getD_getElem?, List.getElem?_toArray, List.getElem?_cons_zero, List.getElem?_cons_succ, Option.getD_some]
        refine wpL_take hOps hS rfl (fun _ _ _ h => h) (yn rfl) ?_
        simp only [Act.put, Act.eval, List.setIfInBounds_toArray, List.set_cons_zero, List.set_cons_succ, Array.getD_eq_getD_getElem?, List.getElem?_toArray, List.getElem?_cons_zero, List.getElem?_cons_succ, Option.getD_some]
        refine wpL_take hOps hS rfl (fun _ _ _ h => h) (yn rfl) ?_
        simp only [Act.put, Act.eval, List.setIfInBounds_toArray, List.set_cons_zero, List.set_cons_succ, Array.getD_eq_getD_getElem?, List.getElem?_toArray, List.getElem?_cons_zero, List.getElem?_cons_succ, Option.getD_some]
        refine wpL_take hOps hS rfl (fun _ _ _ h => h) (yn rfl) ?_
        simp only [Act.put, Act.eval, List.setIfInBounds_toArray, List.set_cons_zero, List.set_cons_succ, Array.getD_eq_getD_getElem?, List.getElem?_toArray, List.getElem?_cons_zero, List.getElem?_cons_succ, Option.getD_some]
        refine wpL_take hOps hS rfl (fun _ _ _ h => h) (yn rfl) ?_
        simp only [Act.put, Act.eval, List.setIfInBounds_toArray, List.set_cons_zero, List.set_cons_succ, Array.getD_eq_getD_getElem?, List.getElem?_toArray, List.getElem?_cons_zero, List.getElem?_cons_succ, Option.getD_some]
        refine wpL_take hOps hS rfl (fun _ _ _ h => h) (yn rfl) ?_
        simp only [Act.put, Act.eval, List.setIfInBounds_toArray, List.set_cons_zero, List.set_cons_succ, Array.getD_eq_getD_getElem?, List.getElem?_toArray, List.getElem?_cons_zero, List.getElem?_cons_succ, Option.getD_some]
        refine wpL_take hOps hS rfl (fun _ _ _ h => h) (yn rfl) ?_
        simp only [Act.put, Act.eval, List.setIfInBounds_toArray, List.set_cons_zero, List.set_cons_succ, Array.getD_eq_getD_getElem?, List.getElem?_toArray, List.getElem?_cons_zero, List.getElem?_cons_succ, Option.getD_some]
        refine wpL_take hOps hS rfl (fun _ _ _ h => h) (yn rfl) ?_
        simp only [Act.put, Act.eval, List.setIfInBounds_toArray, List.set_cons_zero, List.set_cons_succ, Array.getD_eq_getD_getElem?, List.getElem?_toArray, List.getElem?_cons_zero, List.getElem?_cons_succ, Option.getD_some]
        refine wpL_take hOps hS rfl (fun _ _ _ h => h) (yn rfl) ?_
        simp only [Act.put, Act.eval, List.setIfInBounds_toArray, List.set_cons_zero, List.set_cons_succ, Array.getD_eq_getD_getElem?, List.getElem?_toArray, List.getElem?_cons_zero, List.getElem?_cons_succ, Option.getD_some]
        refine wpL_take hOps hS rfl (fun _ _ _ h => h) (yn rfl) ?_
        simp only [Act.put, Act.eval, List.setIfInBounds_toArray, List.set_cons_zero, List.set_cons_succ, Array.getD_eq_getD_getElem?, List.getElem?_toArray, List.getElem?_cons_zero, List.getElem?_cons_succ, Option.getD_some]
        refine wpL_take hOps hS rfl (fun _ _ _ h => h) (yn rfl) ?_
        simp only [Act.put, Act.eval, List.setIfInBounds_toArray, List.set_cons_zero, List.set_cons_succ, Array.getD_eq_getD_getElem?, List.getElem?_toArray, List.getElem?_cons_zero, List.getElem?_cons_succ, Option.getD_some]
        refine wpL_take hOps hS rfl (fun _ _ _ h => h) (yn rfl) ?_
        simp only [Act.put, Act.eval, List.setIfInBounds_toArray, List.set_cons_zero, List.set_cons_succ, Array.getD_eq_getD_getElem?, List.getElem?_toArray, List.getElem?_cons_zero, List.getElem?_cons_succ, Option.getD_some]
        refine wpL_take hOps hS rfl (fun _ _ _ h => h) (yn rfl) ?_
        simp only [Act.put, Act.eval, List.setIfInBounds_toArray, List.set_cons_zero, List.set_cons_succ, Array.getD_eq_getD_getElem?, List.getElem?_toArray, List.getElem?_cons_zero, List.getElem?_cons_succ, Option.getD_some]
        refine wpL_take hOps hS rfl (fun _ _ _ h => h) (yn rfl) ?_
        simp only [Act.put, Act.eval, List.setIfInBounds_toArray, List.set_cons_zero, List.set_cons_succ, Array.getD_eq_getD_getElem?, List.getElem?_toArray, List.getElem?_cons_zero, List.getElem?_cons_succ, Option.getD_some]
        refine wpL_take hOps hS rfl (fun _ _ _ h => h) (yn rfl) ?_
        simp only [Act.put, Act.eval, List.setIfInBounds_toArray, List.set_cons_zero, List.set_cons_succ, Array.getD_eq_getD_getElem?, List.getElem?_toArray, List.getElem?_cons_zero, List.getElem?_cons_succ, Option.getD_some]
        refine wpL_take hOps hS rfl (fun _ _ _ h => h) (yn rfl) ?_
        simp only [Act.put, Act.eval, List.setIfInBounds_toArray, List.set_cons_zero, List.set_cons_succ, Array.getD_eq_getD_getElem?, List.getElem?_toArray, List.getElem?_cons_zero, List.getElem?_cons_succ, Option.getD_some]
        refine wpL_take hOps hS rfl (fun _ _ _ h => h) (yn rfl) ?_
        simp only [Act.put, Act.eval, List.setIfInBounds_toArray, List.set_cons_zero, List.set_cons_succ, Array.getD_eq_getD_getElem?, List.getElem?_toArray, List.getElem?_cons_zero, List.getElem?_cons_succ, Option.getD_some]
        refine wpL_take hOps hS (v := ?vOp193) rfl (fun _ _ _ h => h) (yl rfl ?yOp193) ?_
        case yOp193 => (intro w hw; go_simp; first | done | rfl)
        simp only [Act.put, Act.eval, List.setIfInBounds_toArray, List.set_cons_zero, List.set_cons_succ, Array.getD_eq_getD_getElem?, List.getElem?_toArray, List.getElem?_cons_zero, List.getElem?_cons_succ, Option.getD_some]
        refine wpL_end ?_
        clear hOps hS ops
        go_wp2
        go_roundw
        case rel => exact ⟨1, by omega, by go_num, by rw [firstZ_pos (by omega)]; unfold fku; rw [if_neg (by show ¬ _ < _; unfold fku; omega)]; rfl, H⟩
        case measure => simp [intOf]; omega
      · rw [firstZ_pos (by omega)]
        have hf := fku_spec T j (by omega)
        have HF := Lib.hid hf
        have hfj : (fku T j : Int) < T.length := by omega
        have Hm := Lib.hid (g_get (l := T) (i := fku T j) (by omega))
        have hsucc := Lib.hid (show firstZ T (j + 1) = if (g T j).1 < (g T (fku T j)).1 then (j : Int) else (fku T j : Int) from by rw [firstZ_pos (by omega), show fku T (j + 1) = if (g T j).1 < (g T (fku T j)).1 then j else fku T j from rfl]; split <;> rfl)
        clear hf
        obtain ⟨m, hm⟩ : ∃ m, m = fku T j := ⟨_, rfl⟩
        rw [← hm] at HF hfj Hm hsucc ⊢
        clear hm
        have hm0 : ¬ (m : Int) < 0 := by omega
        go_wp2_with fail
        refine wpL_begin 21 (At w0 (raw q #[.int .i64 most, .slice (some ⟨gb, ob, none⟩) T.length c, .int .u64 nx] 41 :: lrow 43 3 (thC .i64) (.slice (some ⟨gb, ob, none⟩) T.length c) T :: F)) [(0, true), (1, true), (2, true), (3, true), (4, true), (5, true), (6, true), (7, true), (8, true), (9, true), (10, true), (11, true), (12, true), (13, true), (14, true), (15, true), (16, true), (17, true), (18, true), (19, true), (20, true)] rfl (by kernel_rfl) (by kernel_rfl) ((H.drew)) ?_
        intro ops hOps hS
        replace H := H.drew
        refine wpL_take hOps hS rfl (fun _ _ _ h => h) (yl_move rfl _ rfl) ?_
        simp only [Act.put, Act.eval, List.setIfInBounds_toArray, List.set_cons_zero, List.set_cons_succ, Array.getD_eq_getD_getElem?, List.getElem?_toArray, List.getElem?_cons_zero, List.getElem?_cons_succ, Option.getD_some]
        refine wpL_take hOps hS (v := ?vOp201) rfl (fun _ _ _ h => h) (yl rfl ?yOp201) ?_
        case yOp201 => (intro w hw; go_simp; first | done | rfl)
        simp only [Act.put, Act.eval, List.setIfInBounds_toArray, List.set_cons_zero, List.set_cons_succ, Array.getD_eq_getD_getElem?, List.getElem?_toArray, List.getElem?_cons_zero, List.getElem?_cons_succ, Option.getD_some]
        rw [show decide ((m : Int) < 0) = false from decide_eq_false (by omega)]
        refine wpL_take hOps hS rfl (fun _ _ _ h => h) (yl_move rfl _ rfl) ?_
        simp only [Act.put, Act.eval, List.setIfInBounds_toArray, List.set_cons_zero, List.set_cons_succ, Array.getD_eq_getD_getElem?, List.getElem?_toArray, List.getElem?_cons_zero, List.getElem?_cons_succ, Option.getD_some]
        refine wpL_take hOps hS rfl (fun _ _ _ h => h) (yl_move rfl _ rfl) ?_
        simp only [Act.put, Act.eval, List.setIfInBounds_toArray, List.set_cons_zero, List.set_cons_succ, Array.getD_eq_getD_getElem?, List.getElem?_toArray, List.getElem?_cons_zero, List.getElem?_cons_succ, Option.getD_some]
        refine wpL_take hOps hS rfl (fun _ _ _ h => h) (yl_nil rfl _ rfl _ rfl) ?_
        simp only [Act.put, Act.eval, List.setIfInBounds_toArray, List.set_cons_zero, List.set_cons_succ, Array.getD_eq_getD_getElem?, List.getElem?_toArray, List.getElem?_cons_zero, List.getElem?_cons_succ, Option.getD_some]
        refine wpL_take hOps hS (v := ?vOp213) rfl (fun _ _ _ h => h) (yl rfl ?yOp213) ?_
        case yOp213 => (intro w hw; go_simp; first | done | rfl)
        simp only [Act.put, Act.eval, List.setIfInBounds_toArray, List.set_cons_zero, List.set_cons_succ, Array.getD_eq_getD_getElem?, List.getElem?_toArray, List.getElem?_cons_zero, List.getElem?_cons_succ, Option.getD_some]
        refine wpL_take hOps hS rfl (fun _ _ _ h => h) (yl_get rfl _ _ rfl rfl (by kernel_rfl) (fun w hw => raw_at (At.heap hw 0 rfl) rfl)) ?_
        simp only [Act.put, Act.eval, List.setIfInBounds_toArray, List.set_cons_zero, List.set_cons_succ, Array.getD_eq_getD_getElem?, List.getElem?_toArray, List.getElem?_cons_zero, List.getElem?_cons_succ, Option.getD_some]
        refine wpL_take hOps hS rfl (fun _ _ _ h => h) (yl_move rfl _ rfl) ?_
        simp only [Act.put, Act.eval, List.setIfInBounds_toArray, List.set_cons_zero, List.set_cons_succ, Array.getD_eq_getD_getElem?, List.getElem?_toArray, List.getElem?_cons_zero, List.getElem?_cons_succ, Option.getD_some]
        refine wpL_take hOps hS (v := ?vOp220) rfl (fun _ _ _ h => h) (yl rfl ?yOp220) ?_
        case yOp220 => (intro w hw; go_simp; first | done | rfl)
        simp only [Act.put, Act.eval, List.setIfInBounds_toArray, List.set_cons_zero, List.set_cons_succ, Array.getD_eq_getD_getElem?, List.getElem?_toArray, List.getElem?_cons_zero, List.getElem?_cons_succ, Option.getD_some]
        refine wpL_take hOps hS (v := ?vOp222) rfl (fun _ _ _ h => h) (yl rfl ?yOp222) ?_
        case yOp222 => (intro w hw; go_simp; first | done | rfl)
        simp only [Act.put, Act.eval, List.setIfInBounds_toArray, List.set_cons_zero, List.set_cons_succ, Array.getD_eq_getD_getElem?, List.getElem?_toArray, List.getElem?_cons_zero, List.getElem?_cons_succ, Option.getD_some]
        refine wpL_take hOps hS rfl (fun _ _ _ h => h) (yl_get rfl _ _ rfl rfl (by kernel_rfl) (fun w hw => lrow_cell el_rt (j := 0) hw 1 rfl Hj.out rfl)) ?_
        simp only [Act.put, Act.eval, List.setIfInBounds_toArray, List.set_cons_zero, List.set_cons_succ, Array.getD_eq_getD_getElem?, List.getElem?_toArray, List.getElem?_cons_zero, List.getElem?_cons_succ, Option.getD_some]
        refine wpL_take hOps hS rfl (fun _ _ _ h => h) (yl_move rfl _ rfl) ?_
        simp only [Act.put, Act.eval, List.setIfInBounds_toArray, List.set_cons_zero, List.set_cons_succ, Array.getD_eq_getD_getElem?, List.getElem?_toArray, List.getElem?_cons_zero, List.getElem?_cons_succ, Option.getD_some]
        refine wpL_take hOps hS rfl (fun _ _ _ h => h) (yl_nil rfl _ rfl _ rfl) ?_
        simp only [Act.put, Act.eval, List.setIfInBounds_toArray, List.set_cons_zero, List.set_cons_succ, Array.getD_eq_getD_getElem?, List.getElem?_toArray, List.getElem?_cons_zero, List.getElem?_cons_succ, Option.getD_some]
        refine wpL_take hOps hS (v := ?vOp232) rfl (fun _ _ _ h => h) (yl rfl ?yOp232) ?_
        case yOp232 => (intro w hw; go_simp; first | done | rfl)
        simp only [Act.put, Act.eval, List.setIfInBounds_toArray, List.set_cons_zero, List.set_cons_succ, Array.getD_eq_getD_getElem?, List.getElem?_toArray, List.getElem?_cons_zero, List.getElem?_cons_succ, Option.getD_some]
        refine wpL_take hOps hS rfl (fun _ _ _ h => h) (yl_get rfl _ _ rfl rfl (by kernel_rfl) (fun w hw => raw_at (At.heap hw 0 rfl) rfl)) ?_
        simp only [Act.put, Act.eval, List.setIfInBounds_toArray, List.set_cons_zero, List.set_cons_succ, Array.getD_eq_getD_getElem?, List.getElem?_toArray, List.getElem?_cons_zero, List.getElem?_cons_succ, Option.getD_some]
        refine wpL_take hOps hS rfl (fun _ _ _ h => h) (yl_move rfl _ rfl) ?_
        simp only [Act.put, Act.eval, List.setIfInBounds_toArray, List.set_cons_zero, List.set_cons_succ, Array.getD_eq_getD_getElem?, List.getElem?_toArray, List.getElem?_cons_zero, List.getElem?_cons_succ, Option.getD_some]
        refine wpL_take hOps hS (v := ?vOp239) rfl (fun _ _ _ h => h) (yl rfl ?yOp239) ?_
        case yOp239 => (intro w hw; go_simp; first | done | rfl)
        simp only [Act.put, Act.eval, List.setIfInBounds_toArray, List.set_cons_zero, List.set_cons_succ, Array.getD_eq_getD_getElem?, List.getElem?_toArray, List.getElem?_cons_zero, List.getElem?_cons_succ, Option.getD_some]
        refine wpL_take hOps hS (v := ?vOp241) rfl (fun _ _ _ h => h) (yl rfl ?yOp241) ?_
        case yOp241 => (intro w hw; go_simp; first | done | rfl)
        simp only [Act.put, Act.eval, List.setIfInBounds_toArray, List.set_cons_zero, List.set_cons_succ, Array.getD_eq_getD_getElem?, List.getElem?_toArray, List.getElem?_cons_zero, List.getElem?_cons_succ, Option.getD_some]
        refine wpL_take hOps hS rfl (fun _ _ _ h => h) (yl_get rfl _ _ rfl rfl (by kernel_rfl) (fun w hw => lrow_cell el_rt (j := 0) hw 1 rfl Hm.out rfl)) ?_
        simp only [Act.put, Act.eval, List.setIfInBounds_toArray, List.set_cons_zero, List.set_cons_succ, Array.getD_eq_getD_getElem?, List.getElem?_toArray, List.getElem?_cons_zero, List.getElem?_cons_succ, Option.getD_some]
        refine wpL_take hOps hS (v := ?vOp245) rfl (fun _ _ _ h => h) (yl rfl ?yOp245) ?_
        case yOp245 => (intro w hw; go_simp; first | done | rfl)
        simp only [Act.put, Act.eval, List.setIfInBounds_toArray, List.set_cons_zero, List.set_cons_succ, Array.getD_eq_getD_getElem?, List.getElem?_toArray, List.getElem?_cons_zero, List.getElem?_cons_succ, Option.getD_some]
        by_cases hl : (g T j).1 < (g T m).1
        · rw [decide_eq_true hl]
          refine wpL_take hOps hS (v := ?vOp247) rfl (fun _ _ _ h => h) (yl rfl ?yOp247) ?_
          case yOp247 => (intro w hw; go_simp; first | done | rfl)
          simp only [Act.put, Act.eval, List.setIfInBounds_toArray, List.set_cons_zero, List.set_cons_succ, Array.getD_eq_getD_getElem?, List.getElem?_toArray, List.getElem?_cons_zero, List.getElem?_cons_succ, Option.getD_some]
          refine wpL_end ?_
          clear hOps hS ops
          go_wp2
          go_roundw
          case rel => exact ⟨j + 1, by omega, by go_num, by rw [hsucc.out, if_pos hl], H⟩
          case measure => simp [intOf]; omega
        · rw [decide_eq_false hl]
          refine wpL_take hOps hS (v := ?vOp250) rfl (fun _ _ _ h => h) (yl rfl ?yOp250) ?_
          case yOp250 => (intro w hw; go_simp; first | done | rfl)
          simp only [Act.put, Act.eval, List.setIfInBounds_toArray, List.set_cons_zero, List.set_cons_succ, Array.getD_eq_getD_getElem?, List.getElem?_toArray, List.getElem?_cons_zero, List.getElem?_cons_succ, Option.getD_some]
          refine wpL_end ?_
          clear hOps hS ops
          go_wp2
          go_roundw
          case rel => exact ⟨j + 1, by omega, by go_num, by rw [hsucc.out, if_neg hl], H⟩
          case measure => simp [intOf]; omega
    · have hj2 : j = T.length := by omega
      subst hj2
      go_wp2
      go_ret
      exact ⟨rfl, H⟩
set_option maxRecDepth 10000 in
set_option maxHeartbeats 2000000 in
theorem rpop_some {w0 w : World} {F : List SP} {q : Nat} {most nx : Int} {T : List Thing} {a : Option Addr} {c : Nat} (H : At w0 (raw q #[.int .i64 most, .slice a T.length c, .int .u64 nx] 41 :: lrow 43 3 (thC .i64) (.slice a T.length c) T :: F) w) (hT : T.length ≤ 999999) (now : Int) (h0 : 0 < T.length) (hn : ¬ now < (g T (fk T)).1) :
    Calls Try.prog 15 #[.pointer (some ⟨q, 0, none⟩), .int .u64 now] w fun e w' => e = .returned (.tuple #[.int .i64 (g T (fk T)).2.2, .int .u64 (g T (fk T)).1, .bool true]) ∧ At w0 (rheap q most nx (T.eraseIdx (fk T)) :: F) w' := by
  obtain ⟨gb, ob, rfl⟩ := lrow_place H 1 rfl h0
  have hk := fk_lt h0
  have hz : firstZ T T.length = (fk T : Int) := firstZ_pos h0
  obtain ⟨k, hk2⟩ : ∃ k, k = fk T := ⟨_, rfl⟩
  rw [← hk2] at hk hz hn ⊢
  clear hk2
  have hg := g_get hk
  have Hg := Lib.hid hg
  have hk3 : (k : Int) < T.length := by omega
  have hk0 : ¬ (k : Int) < 0 := by omega
  have hc : w.cell? ⟨q, 1, none⟩ = some (.slice (some ⟨gb, ob, none⟩) T.length c) := raw_at (H.heap 0 rfl) rfl
  have hcl : T.length ≤ c := by
    have h := H.pull 1 rfl
    unfold lrow at h
    obtain ⟨_, _, h, _⟩ := At.rows_blk h
    exact h
  have hE := Lib.hid (List.eraseIdx_eq_take_drop_succ (l := T) (i := k))
  clear hg
  go_enter Try.func15, Try.ntmps15
  go_wp2_with fail
  refine (rfirst_walk H (by omega)).mono ?_; rintro e w' ⟨rfl, H⟩
  rw [hz]
  clear hc
  have hc : w'.cell? ⟨q, 1, none⟩ = some (.slice (some ⟨gb, ob, none⟩) T.length c) := raw_at (H.heap 0 rfl) rfl
  have hb : w'.cell? ⟨gb, ob + k * 3, none⟩ = some (.int .u64 (g T k).1) := lrow_cell el_rt (j := 0) H 1 rfl Hg.out rfl
  have hbr := Lib.hid (lrow_at el_rt H 1 rfl Hg.out)
  go_wp2_with ((with_reducible refine wpList_op rfl ?_); intro _ hK; first | (refine wp_alloc_sl _ rfl info_RThing H (fun B w' (H : At w0 (raw B _ 43 :: _) w') _ => hK _ _ ?_)) | (refine wp_store_row_sl (cells := (thC .i64 (g T k)).toArray) _ _ _ rfl rfl rfl (by kernel_rfl) (by simp [thC, Value.oneCell']) 0 H rfl rfl fun w' (H : At w0 (raw B (thC .i64 (g T k)).toArray 43 :: _) w') => hK _ _ ?_) | (refine wp_mid 43 _ rfl rfl (thC .i64 (g T k)) (by kernel_rfl) (by kernel_rfl) hbr.out (hK _ _ ?_)))
  clear hc hb
  have q1 : (k : Int) ≤ (k : Int) + 1 := by omega
  have q2 : k ≤ c := by omega
  have q4 : IntKind.i64.wrap ((k : Int) + 1) = (k : Int) + 1 := by rw [IntKind.wrap_i64]; omega
  have q3 : (k : Int) + 1 ≤ (T.length : Int) := by omega
  by_cases hce : c = k + 1
  · have hd : T.drop (k + 1) = [] := List.drop_of_length_le (by omega)
    have HD := Lib.hid hd
    have hlen0 : T.length - (k + 1) = 0 := by omega
    clear hd
    refine wpM_begin [19] ((At w0 (raw B (thC .i64 (g T k)).toArray 43 :: raw q #[.int .i64 most, .slice (some ⟨gb, ob, none⟩) T.length c, .int .u64 nx] 41 :: lrow 43 3 (thC .i64) (.slice (some ⟨gb, ob, none⟩) T.length c) T :: F))) [(0, 2), (2, 2), (3, 2), (4, 2), (5, 1), (6, 2), (7, 2), (9, 2), (10, 2), (11, 2), (12, 1), (13, 2), (14, 2), (15, 2), (1, 0), (8, 0), (16, 0), (17, 2), (18, 2), (19, 0)] rfl (by kernel_rfl) (by kernel_rfl) ((H.drew)) ?_
    intro ops hOps hS
    replace H := H.drew
    refine wpM_free hOps rfl (fun _ _ _ h => h) (yl_move rfl _ rfl) ?_
    simp only [Act.put, Act.eval, List.setIfInBounds_toArray, List.set_cons_zero, List.set_cons_succ, Array.getD_eq_getD_getElem?, List.getElem?_toArray, List.getElem?_cons_zero, List.getElem?_cons_succ, Option.getD_some]
    refine wpM_free hOps rfl (fun _ _ _ h => h) (yl_move rfl _ rfl) ?_
    simp only [Act.put, Act.eval, List.setIfInBounds_toArray, List.set_cons_zero, List.set_cons_succ, Array.getD_eq_getD_getElem?, List.getElem?_toArray, List.getElem?_cons_zero, List.getElem?_cons_succ, Option.getD_some]
    refine wpM_free hOps rfl (fun _ _ _ h => h) (yl_nil rfl _ rfl _ rfl) ?_
    simp only [Act.put, Act.eval, List.setIfInBounds_toArray, List.set_cons_zero, List.set_cons_succ, Array.getD_eq_getD_getElem?, List.getElem?_toArray, List.getElem?_cons_zero, List.getElem?_cons_succ, Option.getD_some]
    refine wpM_free hOps (v := ?vOp264) rfl (fun _ _ _ h => h) (yl rfl ?yOp264) ?_
    case yOp264 => (intro w hw; go_simp; first | done | rfl)
    simp only [Act.put, Act.eval, List.setIfInBounds_toArray, List.set_cons_zero, List.set_cons_succ, Array.getD_eq_getD_getElem?, List.getElem?_toArray, List.getElem?_cons_zero, List.getElem?_cons_succ, Option.getD_some]
    refine wpM_take hOps hS rfl (fun _ _ _ h => h) (yl_get rfl _ _ rfl rfl (by kernel_rfl) (fun w hw => raw_at (At.heap hw 1 rfl) rfl)) ?_
    simp only [Act.put, Act.eval, List.setIfInBounds_toArray, List.set_cons_zero, List.set_cons_succ, Array.getD_eq_getD_getElem?, List.getElem?_toArray, List.getElem?_cons_zero, List.getElem?_cons_succ, Option.getD_some]
    refine wpM_free hOps rfl (fun _ _ _ h => h) (yl_move rfl _ rfl) ?_
    simp only [Act.put, Act.eval, List.setIfInBounds_toArray, List.set_cons_zero, List.set_cons_succ, Array.getD_eq_getD_getElem?, List.getElem?_toArray, List.getElem?_cons_zero, List.getElem?_cons_succ, Option.getD_some]
    refine wpM_free hOps (v := ?vOp271) rfl (fun _ _ _ h => h) (yl rfl ?yOp271) ?_
    case yOp271 => (intro w hw; go_simp; first | done | rfl)
    simp only [Act.put, Act.eval, List.setIfInBounds_toArray, List.set_cons_zero, List.set_cons_succ, Array.getD_eq_getD_getElem?, List.getElem?_toArray, List.getElem?_cons_zero, List.getElem?_cons_succ, Option.getD_some]
    refine wpM_free hOps rfl (fun _ _ _ h => h) (yl_move rfl _ rfl) ?_
    simp only [Act.put, Act.eval, List.setIfInBounds_toArray, List.set_cons_zero, List.set_cons_succ, Array.getD_eq_getD_getElem?, List.getElem?_toArray, List.getElem?_cons_zero, List.getElem?_cons_succ, Option.getD_some]
    refine wpM_free hOps rfl (fun _ _ _ h => h) (yl_nil rfl _ rfl _ rfl) ?_
    simp only [Act.put, Act.eval, List.setIfInBounds_toArray, List.set_cons_zero, List.set_cons_succ, Array.getD_eq_getD_getElem?, List.getElem?_toArray, List.getElem?_cons_zero, List.getElem?_cons_succ, Option.getD_some]
    refine wpM_free hOps (v := ?vOp279) rfl (fun _ _ _ h => h) (yl rfl ?yOp279) ?_
    case yOp279 => (intro w hw; go_simp; first | done | rfl)
    simp only [Act.put, Act.eval, List.setIfInBounds_toArray, List.set_cons_zero, List.set_cons_succ, Array.getD_eq_getD_getElem?, List.getElem?_toArray, List.getElem?_cons_zero, List.getElem?_cons_succ, Option.getD_some]
    refine wpM_take hOps hS rfl (fun _ _ _ h => h) (yl_get rfl _ _ rfl rfl (by kernel_rfl) (fun w hw => raw_at (At.heap hw 1 rfl) rfl)) ?_
    simp only [Act.put, Act.eval, List.setIfInBounds_toArray, List.set_cons_zero, List.set_cons_succ, Array.getD_eq_getD_getElem?, List.getElem?_toArray, List.getElem?_cons_zero, List.getElem?_cons_succ, Option.getD_some]
    refine wpM_free hOps rfl (fun _ _ _ h => h) (yl_move rfl _ rfl) ?_
    simp only [Act.put, Act.eval, List.setIfInBounds_toArray, List.set_cons_zero, List.set_cons_succ, Array.getD_eq_getD_getElem?, List.getElem?_toArray, List.getElem?_cons_zero, List.getElem?_cons_succ, Option.getD_some]
    refine wpM_free hOps (v := ?vOp286) rfl (fun _ _ _ h => h) (yl rfl ?yOp286) ?_
    case yOp286 => (intro w hw; go_simp; first | done | rfl)
    simp only [Act.put, Act.eval, List.setIfInBounds_toArray, List.set_cons_zero, List.set_cons_succ, Array.getD_eq_getD_getElem?, List.getElem?_toArray, List.getElem?_cons_zero, List.getElem?_cons_succ, Option.getD_some]
    refine wpM_free hOps (v := ?vOp288) rfl (fun _ _ _ h => h) (yl rfl ?yOp288) ?_
    case yOp288 => (intro w hw; go_simp; first | done | rfl)
    simp only [Act.put, Act.eval, List.setIfInBounds_toArray, List.set_cons_zero, List.set_cons_succ, Array.getD_eq_getD_getElem?, List.getElem?_toArray, List.getElem?_cons_zero, List.getElem?_cons_succ, Option.getD_some]
    refine wpM_next hOps rfl rfl ?_
    intro K hK
    refine wp_lnew el_rt _ under_RThings rfl H (fun B' w' H => ?_)
    have hS := (H.tail)
    refine hK _ _ (.inr hS) ?_
    clear hK K
    simp only [Act.put, Act.eval, List.setIfInBounds_toArray, List.set_cons_zero, List.set_cons_succ, Array.getD_eq_getD_getElem?, List.getElem?_toArray, List.getElem?_cons_zero, List.getElem?_cons_succ, Option.getD_some]
    refine wpM_next hOps rfl rfl ?_
    intro K hK
    refine wp_lapp el_rt (xs := []) (ys := T.take k) _ _ under_RThings (.inl ⟨_, under_RThings⟩) _ _ rfl rfl H rfl (lrow_src_take el_rt H 3 rfl k _ (by omega)) (by simp [maxLen]; omega) (by simp; omega) (fun b1 c1 w' H => ?_)
    have hS := (H.tail)
    refine hK _ _ (.inr hS) ?_
    clear hK K
    simp only [Act.put, Act.eval, List.setIfInBounds_toArray, List.set_cons_zero, List.set_cons_succ, Array.getD_eq_getD_getElem?, List.getElem?_toArray, List.getElem?_cons_zero, List.getElem?_cons_succ, Option.getD_some]
    refine wpM_next hOps rfl rfl ?_
    intro K hK
    refine wp_lapp el_rt (xs := [] ++ T.take k) (ys := []) _ _ under_RThings (.inl ⟨_, under_RThings⟩) _ _ rfl rfl H rfl (by first | exact lrow_src_zero _ _ | (rw [hlen0]; exact lrow_src_zero _ _)) (by simp [maxLen]; omega) (by simp; omega) (fun b2 c2 w' H => ?_)
    have hS := (H.tail)
    refine hK _ _ (.inr hS) ?_
    clear hK K
    simp only [Act.put, Act.eval, List.setIfInBounds_toArray, List.set_cons_zero, List.set_cons_succ, Array.getD_eq_getD_getElem?, List.getElem?_toArray, List.getElem?_cons_zero, List.getElem?_cons_succ, Option.getD_some]
    refine wpM_free hOps rfl (fun _ _ _ h => h) (yl_nil rfl _ rfl _ rfl) ?_
    simp only [Act.put, Act.eval, List.setIfInBounds_toArray, List.set_cons_zero, List.set_cons_succ, Array.getD_eq_getD_getElem?, List.getElem?_toArray, List.getElem?_cons_zero, List.getElem?_cons_succ, Option.getD_some]
    refine wpM_free hOps (v := ?vOp302) rfl (fun _ _ _ h => h) (yl rfl ?yOp302) ?_
    case yOp302 => (intro w hw; go_simp; first | done | rfl)
    simp only [Act.put, Act.eval, List.setIfInBounds_toArray, List.set_cons_zero, List.set_cons_succ, Array.getD_eq_getD_getElem?, List.getElem?_toArray, List.getElem?_cons_zero, List.getElem?_cons_succ, Option.getD_some]
    refine wpM_next hOps rfl rfl ?_
    intro K hK
    refine wp_store_sl _ _ _ rfl rfl rfl (by kernel_rfl) rfl 2 H rfl (by simp) fun w' H => ?_
    refine hK _ _ (.inl (by decide)) ?_
    clear hK K
    simp only [Act.put, Act.eval, List.setIfInBounds_toArray, List.set_cons_zero, List.set_cons_succ, Array.getD_eq_getD_getElem?, List.getElem?_toArray, List.getElem?_cons_zero, List.getElem?_cons_succ, Option.getD_some]
    refine wpM_end ?_
    clear hOps hS ops
    replace H : At w0 (raw q #[.int .i64 most, .slice b2 ([] ++ T.take k ++ []).length c2, .int .u64 nx] 41 :: lrow 43 3 (thC .i64) (.slice b2 ([] ++ T.take k ++ []).length c2) ([] ++ T.take k ++ []) :: raw B (thC .i64 (g T k)).toArray 43 :: F) w' := (H.pull 2 rfl).maskR [true, true, true, false]
    go_wp2_with fail
    refine wpM_begin [] ((At w0 (_ :: _ :: raw B (thC .i64 (g T k)).toArray 43 :: F))) [(0, 2), (1, 1), (2, 2), (3, 1), (4, 0), (5, 0), (6, 0)] rfl (by kernel_rfl) (by kernel_rfl) ((H.drew)) ?_
    intro ops hOps hS
    replace H := H.drew
    refine wpM_free hOps (v := ?vOp310) rfl (fun _ _ _ h => h) (yl rfl ?yOp310) ?_
    case yOp310 => (intro w hw; go_simp; first | done | rfl)
    simp only [Act.put, Act.eval, List.setIfInBounds_toArray, List.set_cons_zero, List.set_cons_succ, Array.getD_eq_getD_getElem?, List.getElem?_toArray, List.getElem?_cons_zero, List.getElem?_cons_succ, Option.getD_some]
    refine wpM_take hOps hS rfl (fun _ _ _ h => h) (yl_get rfl _ _ rfl rfl (by kernel_rfl) (fun w hw => raw_at (At.heap hw 2 rfl) rfl)) ?_
    simp only [Act.put, Act.eval, List.setIfInBounds_toArray, List.set_cons_zero, List.set_cons_succ, Array.getD_eq_getD_getElem?, List.getElem?_toArray, List.getElem?_cons_zero, List.getElem?_cons_succ, Option.getD_some]
    refine wpM_free hOps (v := ?vOp314) rfl (fun _ _ _ h => h) (yl rfl ?yOp314) ?_
    case yOp314 => (intro w hw; go_simp; first | done | rfl)
    simp only [Act.put, Act.eval, List.setIfInBounds_toArray, List.set_cons_zero, List.set_cons_succ, Array.getD_eq_getD_getElem?, List.getElem?_toArray, List.getElem?_cons_zero, List.getElem?_cons_succ, Option.getD_some]
    refine wpM_take hOps hS rfl (fun _ _ _ h => h) (yl_get rfl _ _ rfl rfl (by kernel_rfl) (fun w hw => raw_at (At.heap hw 2 rfl) rfl)) ?_
    simp only [Act.put, Act.eval, List.setIfInBounds_toArray, List.set_cons_zero, List.set_cons_succ, Array.getD_eq_getD_getElem?, List.getElem?_toArray, List.getElem?_cons_zero, List.getElem?_cons_succ, Option.getD_some]
    refine wpM_next hOps rfl rfl ?_
    intro K hK
    refine wp_run rfl ?_
    have hS := (H)
    refine hK _ _ (.inr hS) ?_
    clear hK K
    simp only [Act.put, Act.eval, List.setIfInBounds_toArray, List.set_cons_zero, List.set_cons_succ, Array.getD_eq_getD_getElem?, List.getElem?_toArray, List.getElem?_cons_zero, List.getElem?_cons_succ, Option.getD_some]
    refine wpM_next hOps rfl rfl ?_
    intro K hK
    refine wp_run rfl ?_
    have hS := (H)
    refine hK _ _ (.inr hS) ?_
    clear hK K
    simp only [Act.put, Act.eval, List.setIfInBounds_toArray, List.set_cons_zero, List.set_cons_succ, Array.getD_eq_getD_getElem?, List.getElem?_toArray, List.getElem?_cons_zero, List.getElem?_cons_succ, Option.getD_some]
    refine wpM_next hOps rfl rfl ?_
    intro K hK
    refine wp_run rfl ?_
    have hS := (H)
    refine hK _ _ (.inr hS) ?_
    clear hK K
    simp only [Act.put, Act.eval, List.setIfInBounds_toArray, List.set_cons_zero, List.set_cons_succ, Array.getD_eq_getD_getElem?, List.getElem?_toArray, List.getElem?_cons_zero, List.getElem?_cons_succ, Option.getD_some]
    refine wpM_end ?_
    clear hOps hS ops
    go_wp2
    go_ret3
    refine ⟨rfl, ?_⟩
    rw [hE.out, HD.out]
    exact rheap_shut (H.maskR [true, true, false])
  · refine wpM_begin [19] ((At w0 (raw B (thC .i64 (g T k)).toArray 43 :: raw q #[.int .i64 most, .slice (some ⟨gb, ob, none⟩) T.length c, .int .u64 nx] 41 :: lrow 43 3 (thC .i64) (.slice (some ⟨gb, ob, none⟩) T.length c) T :: F))) [(0, 2), (2, 2), (3, 2), (4, 2), (5, 1), (6, 2), (7, 2), (9, 2), (10, 2), (11, 2), (12, 1), (13, 2), (14, 2), (15, 2), (1, 0), (8, 0), (16, 0), (17, 2), (18, 2), (19, 0)] rfl (by kernel_rfl) (by kernel_rfl) ((H.drew)) ?_
    intro ops hOps hS
    replace H := H.drew
    refine wpM_free hOps rfl (fun _ _ _ h => h) (yl_move rfl _ rfl) ?_
    simp only [Act.put, Act.eval, List.setIfInBounds_toArray, List.set_cons_zero, List.set_cons_succ, Array.getD_eq_getD_getElem?, List.getElem?_toArray, List.getElem?_cons_zero, List.getElem?_cons_succ, Option.getD_some]
    refine wpM_free hOps rfl (fun _ _ _ h => h) (yl_move rfl _ rfl) ?_
    simp only [Act.put, Act.eval, List.setIfInBounds_toArray, List.set_cons_zero, List.set_cons_succ, Array.getD_eq_getD_getElem?, List.getElem?_toArray, List.getElem?_cons_zero, List.getElem?_cons_succ, Option.getD_some]
    refine wpM_free hOps rfl (fun _ _ _ h => h) (yl_nil rfl _ rfl _ rfl) ?_
    simp only [Act.put, Act.eval, List.setIfInBounds_toArray, List.set_cons_zero, List.set_cons_succ, Array.getD_eq_getD_getElem?, List.getElem?_toArray, List.getElem?_cons_zero, List.getElem?_cons_succ, Option.getD_some]
    refine wpM_free hOps (v := ?vOp339) rfl (fun _ _ _ h => h) (yl rfl ?yOp339) ?_
    case yOp339 => (intro w hw; go_simp; first | done | rfl)
    simp only [Act.put, Act.eval, List.setIfInBounds_toArray, List.set_cons_zero, List.set_cons_succ, Array.getD_eq_getD_getElem?, List.getElem?_toArray, List.getElem?_cons_zero, List.getElem?_cons_succ, Option.getD_some]
    refine wpM_take hOps hS rfl (fun _ _ _ h => h) (yl_get rfl _ _ rfl rfl (by kernel_rfl) (fun w hw => raw_at (At.heap hw 1 rfl) rfl)) ?_
    simp only [Act.put, Act.eval, List.setIfInBounds_toArray, List.set_cons_zero, List.set_cons_succ, Array.getD_eq_getD_getElem?, List.getElem?_toArray, List.getElem?_cons_zero, List.getElem?_cons_succ, Option.getD_some]
    refine wpM_free hOps rfl (fun _ _ _ h => h) (yl_move rfl _ rfl) ?_
    simp only [Act.put, Act.eval, List.setIfInBounds_toArray, List.set_cons_zero, List.set_cons_succ, Array.getD_eq_getD_getElem?, List.getElem?_toArray, List.getElem?_cons_zero, List.getElem?_cons_succ, Option.getD_some]
    refine wpM_free hOps (v := ?vOp346) rfl (fun _ _ _ h => h) (yl rfl ?yOp346) ?_
    case yOp346 => (intro w hw; go_simp; first | done | rfl)
    simp only [Act.put, Act.eval, List.setIfInBounds_toArray, List.set_cons_zero, List.set_cons_succ, Array.getD_eq_getD_getElem?, List.getElem?_toArray, List.getElem?_cons_zero, List.getElem?_cons_succ, Option.getD_some]
    refine wpM_free hOps rfl (fun _ _ _ h => h) (yl_move rfl _ rfl) ?_
    simp only [Act.put, Act.eval, List.setIfInBounds_toArray, List.set_cons_zero, List.set_cons_succ, Array.getD_eq_getD_getElem?, List.getElem?_toArray, List.getElem?_cons_zero, List.getElem?_cons_succ, Option.getD_some]
    refine wpM_free hOps rfl (fun _ _ _ h => h) (yl_nil rfl _ rfl _ rfl) ?_
    simp only [Act.put, Act.eval, List.setIfInBounds_toArray, List.set_cons_zero, List.set_cons_succ, Array.getD_eq_getD_getElem?, List.getElem?_toArray, List.getElem?_cons_zero, List.getElem?_cons_succ, Option.getD_some]
    refine wpM_free hOps (v := ?vOp354) rfl (fun _ _ _ h => h) (yl rfl ?yOp354) ?_
    case yOp354 => (intro w hw; go_simp; first | done | rfl)
    simp only [Act.put, Act.eval, List.setIfInBounds_toArray, List.set_cons_zero, List.set_cons_succ, Array.getD_eq_getD_getElem?, List.getElem?_toArray, List.getElem?_cons_zero, List.getElem?_cons_succ, Option.getD_some]
    refine wpM_take hOps hS rfl (fun _ _ _ h => h) (yl_get rfl _ _ rfl rfl (by kernel_rfl) (fun w hw => raw_at (At.heap hw 1 rfl) rfl)) ?_
    simp only [Act.put, Act.eval, List.setIfInBounds_toArray, List.set_cons_zero, List.set_cons_succ, Array.getD_eq_getD_getElem?, List.getElem?_toArray, List.getElem?_cons_zero, List.getElem?_cons_succ, Option.getD_some]
    refine wpM_free hOps rfl (fun _ _ _ h => h) (yl_move rfl _ rfl) ?_
    simp only [Act.put, Act.eval, List.setIfInBounds_toArray, List.set_cons_zero, List.set_cons_succ, Array.getD_eq_getD_getElem?, List.getElem?_toArray, List.getElem?_cons_zero, List.getElem?_cons_succ, Option.getD_some]
    refine wpM_free hOps (v := ?vOp361) rfl (fun _ _ _ h => h) (yl rfl ?yOp361) ?_
    case yOp361 => (intro w hw; go_simp; first | done | rfl)
    simp only [Act.put, Act.eval, List.setIfInBounds_toArray, List.set_cons_zero, List.set_cons_succ, Array.getD_eq_getD_getElem?, List.getElem?_toArray, List.getElem?_cons_zero, List.getElem?_cons_succ, Option.getD_some]
    refine wpM_free hOps (v := ?vOp363) rfl (fun _ _ _ h => h) (yl rfl ?yOp363) ?_
    case yOp363 => (intro w hw; go_simp; first | done | rfl)
    simp only [Act.put, Act.eval, List.setIfInBounds_toArray, List.set_cons_zero, List.set_cons_succ, Array.getD_eq_getD_getElem?, List.getElem?_toArray, List.getElem?_cons_zero, List.getElem?_cons_succ, Option.getD_some]
    refine wpM_next hOps rfl rfl ?_
    intro K hK
    refine wp_lnew el_rt _ under_RThings rfl H (fun B' w' H => ?_)
    have hS := (H.tail)
    refine hK _ _ (.inr hS) ?_
    clear hK K
    simp only [Act.put, Act.eval, List.setIfInBounds_toArray, List.set_cons_zero, List.set_cons_succ, Array.getD_eq_getD_getElem?, List.getElem?_toArray, List.getElem?_cons_zero, List.getElem?_cons_succ, Option.getD_some]
    refine wpM_next hOps rfl rfl ?_
    intro K hK
    refine wp_lapp el_rt (xs := []) (ys := T.take k) _ _ under_RThings (.inl ⟨_, under_RThings⟩) _ _ rfl rfl H rfl (lrow_src_take el_rt H 3 rfl k _ (by omega)) (by simp [maxLen]; omega) (by simp; omega) (fun b1 c1 w' H => ?_)
    have hS := (H.tail)
    refine hK _ _ (.inr hS) ?_
    clear hK K
    simp only [Act.put, Act.eval, List.setIfInBounds_toArray, List.set_cons_zero, List.set_cons_succ, Array.getD_eq_getD_getElem?, List.getElem?_toArray, List.getElem?_cons_zero, List.getElem?_cons_succ, Option.getD_some]
    refine wpM_next hOps rfl rfl ?_
    intro K hK
    refine wp_lapp el_rt (xs := [] ++ T.take k) (ys := (T.drop (k + 1))) _ _ under_RThings (.inl ⟨_, under_RThings⟩) _ _ rfl rfl H rfl (lrow_src_drop el_rt H 3 rfl (k + 1) _ (by omega)) (by simp [maxLen]; omega) (by simp; omega) (fun b2 c2 w' H => ?_)
    have hS := (H.tail)
    refine hK _ _ (.inr hS) ?_
    clear hK K
    simp only [Act.put, Act.eval, List.setIfInBounds_toArray, List.set_cons_zero, List.set_cons_succ, Array.getD_eq_getD_getElem?, List.getElem?_toArray, List.getElem?_cons_zero, List.getElem?_cons_succ, Option.getD_some]
    refine wpM_free hOps rfl (fun _ _ _ h => h) (yl_nil rfl _ rfl _ rfl) ?_
    simp only [Act.put, Act.eval, List.setIfInBounds_toArray, List.set_cons_zero, List.set_cons_succ, Array.getD_eq_getD_getElem?, List.getElem?_toArray, List.getElem?_cons_zero, List.getElem?_cons_succ, Option.getD_some]
    refine wpM_free hOps (v := ?vOp377) rfl (fun _ _ _ h => h) (yl rfl ?yOp377) ?_
    case yOp377 => (intro w hw; go_simp; first | done | rfl)
    simp only [Act.put, Act.eval, List.setIfInBounds_toArray, List.set_cons_zero, List.set_cons_succ, Array.getD_eq_getD_getElem?, List.getElem?_toArray, List.getElem?_cons_zero, List.getElem?_cons_succ, Option.getD_some]
    refine wpM_next hOps rfl rfl ?_
    intro K hK
    refine wp_store_sl _ _ _ rfl rfl rfl (by kernel_rfl) rfl 2 H rfl (by simp) fun w' H => ?_
    refine hK _ _ (.inl (by decide)) ?_
    clear hK K
    simp only [Act.put, Act.eval, List.setIfInBounds_toArray, List.set_cons_zero, List.set_cons_succ, Array.getD_eq_getD_getElem?, List.getElem?_toArray, List.getElem?_cons_zero, List.getElem?_cons_succ, Option.getD_some]
    refine wpM_end ?_
    clear hOps hS ops
    replace H : At w0 (raw q #[.int .i64 most, .slice b2 ([] ++ T.take k ++ (T.drop (k + 1))).length c2, .int .u64 nx] 41 :: lrow 43 3 (thC .i64) (.slice b2 ([] ++ T.take k ++ (T.drop (k + 1))).length c2) ([] ++ T.take k ++ (T.drop (k + 1))) :: raw B (thC .i64 (g T k)).toArray 43 :: F) w' := (H.pull 2 rfl).maskR [true, true, true, false]
    go_wp2_with fail
    refine wpM_begin [] ((At w0 (_ :: _ :: raw B (thC .i64 (g T k)).toArray 43 :: F))) [(0, 2), (1, 1), (2, 2), (3, 1), (4, 0), (5, 0), (6, 0)] rfl (by kernel_rfl) (by kernel_rfl) ((H.drew)) ?_
    intro ops hOps hS
    replace H := H.drew
    refine wpM_free hOps (v := ?vOp385) rfl (fun _ _ _ h => h) (yl rfl ?yOp385) ?_
    case yOp385 => (intro w hw; go_simp; first | done | rfl)
    simp only [Act.put, Act.eval, List.setIfInBounds_toArray, List.set_cons_zero, List.set_cons_succ, Array.getD_eq_getD_getElem?, List.getElem?_toArray, List.getElem?_cons_zero, List.getElem?_cons_succ, Option.getD_some]
    refine wpM_take hOps hS rfl (fun _ _ _ h => h) (yl_get rfl _ _ rfl rfl (by kernel_rfl) (fun w hw => raw_at (At.heap hw 2 rfl) rfl)) ?_
    simp only [Act.put, Act.eval, List.setIfInBounds_toArray, List.set_cons_zero, List.set_cons_succ, Array.getD_eq_getD_getElem?, List.getElem?_toArray, List.getElem?_cons_zero, List.getElem?_cons_succ, Option.getD_some]
    refine wpM_free hOps (v := ?vOp389) rfl (fun _ _ _ h => h) (yl rfl ?yOp389) ?_
    case yOp389 => (intro w hw; go_simp; first | done | rfl)
    simp only [Act.put, Act.eval, List.setIfInBounds_toArray, List.set_cons_zero, List.set_cons_succ, Array.getD_eq_getD_getElem?, List.getElem?_toArray, List.getElem?_cons_zero, List.getElem?_cons_succ, Option.getD_some]
    refine wpM_take hOps hS rfl (fun _ _ _ h => h) (yl_get rfl _ _ rfl rfl (by kernel_rfl) (fun w hw => raw_at (At.heap hw 2 rfl) rfl)) ?_
    simp only [Act.put, Act.eval, List.setIfInBounds_toArray, List.set_cons_zero, List.set_cons_succ, Array.getD_eq_getD_getElem?, List.getElem?_toArray, List.getElem?_cons_zero, List.getElem?_cons_succ, Option.getD_some]
    refine wpM_next hOps rfl rfl ?_
    intro K hK
    refine wp_run rfl ?_
    have hS := (H)
    refine hK _ _ (.inr hS) ?_
    clear hK K
    simp only [Act.put, Act.eval, List.setIfInBounds_toArray, List.set_cons_zero, List.set_cons_succ, Array.getD_eq_getD_getElem?, List.getElem?_toArray, List.getElem?_cons_zero, List.getElem?_cons_succ, Option.getD_some]
    refine wpM_next hOps rfl rfl ?_
    intro K hK
    refine wp_run rfl ?_
    have hS := (H)
    refine hK _ _ (.inr hS) ?_
    clear hK K
    simp only [Act.put, Act.eval, List.setIfInBounds_toArray, List.set_cons_zero, List.set_cons_succ, Array.getD_eq_getD_getElem?, List.getElem?_toArray, List.getElem?_cons_zero, List.getElem?_cons_succ, Option.getD_some]
    refine wpM_next hOps rfl rfl ?_
    intro K hK
    refine wp_run rfl ?_
    have hS := (H)
    refine hK _ _ (.inr hS) ?_
    clear hK K
    simp only [Act.put, Act.eval, List.setIfInBounds_toArray, List.set_cons_zero, List.set_cons_succ, Array.getD_eq_getD_getElem?, List.getElem?_toArray, List.getElem?_cons_zero, List.getElem?_cons_succ, Option.getD_some]
    refine wpM_end ?_
    clear hOps hS ops
    go_wp2
    go_ret3
    refine ⟨rfl, ?_⟩
    rw [hE.out]
    exact rheap_shut (H.maskR [true, true, false])
set_option maxRecDepth 10000 in
set_option maxHeartbeats 1000000 in
theorem rpop_none {w0 w : World} {F : List SP} {q : Nat} {most nx : Int} {T : List Thing} {a : Option Addr} {c : Nat} (H : At w0 (raw q #[.int .i64 most, .slice a T.length c, .int .u64 nx] 41 :: lrow 43 3 (thC .i64) (.slice a T.length c) T :: F) w) (now : Int) (h0 : T.length = 0) :
    Calls Try.prog 15 #[.pointer (some ⟨q, 0, none⟩), .int .u64 now] w fun e w' => e = .returned (.tuple #[.int .i64 0, .int .u64 0, .bool false]) ∧ At w0 (raw q #[.int .i64 most, .slice a T.length c, .int .u64 nx] 41 :: lrow 43 3 (thC .i64) (.slice a T.length c) T :: F) w' := by
  have hz : firstZ T T.length = -1 := by rw [h0]; rfl
  go_enter Try.func15, Try.ntmps15
  go_wp2_with fail
  refine (rfirst_walk H (by omega)).mono ?_; rintro e w' ⟨rfl, H⟩
  rw [hz]
  clear h0 hz
  go_wp2
  go_ret3
  exact ⟨rfl, H⟩
set_option maxRecDepth 10000 in
set_option maxHeartbeats 1000000 in
theorem rpop_early {w0 w : World} {F : List SP} {q : Nat} {most nx : Int} {T : List Thing} {a : Option Addr} {c : Nat} (H : At w0 (raw q #[.int .i64 most, .slice a T.length c, .int .u64 nx] 41 :: lrow 43 3 (thC .i64) (.slice a T.length c) T :: F) w) (hT : T.length ≤ 999999) (now : Int) (h0 : 0 < T.length) (hn : now < (g T (fk T)).1) :
    Calls Try.prog 15 #[.pointer (some ⟨q, 0, none⟩), .int .u64 now] w fun e w' => e = .returned (.tuple #[.int .i64 0, .int .u64 0, .bool false]) ∧ At w0 (raw q #[.int .i64 most, .slice a T.length c, .int .u64 nx] 41 :: lrow 43 3 (thC .i64) (.slice a T.length c) T :: F) w' := by
  obtain ⟨gb, ob, rfl⟩ := lrow_place H 1 rfl h0
  have hk := fk_lt h0
  have hz : firstZ T T.length = (fk T : Int) := firstZ_pos h0
  obtain ⟨k, hk2⟩ : ∃ k, k = fk T := ⟨_, rfl⟩
  rw [← hk2] at hk hz hn
  clear hk2
  have hg := g_get hk
  have Hg := Lib.hid hg
  have hk3 : (k : Int) < T.length := by omega
  clear hg
  go_enter Try.func15, Try.ntmps15
  go_wp2_with fail
  refine (rfirst_walk H (by omega)).mono ?_; rintro e w' ⟨rfl, H⟩
  rw [hz]
  have hc : w'.cell? ⟨q, 1, none⟩ = some (.slice (some ⟨gb, ob, none⟩) T.length c) := raw_at (H.heap 0 rfl) rfl
  have hb : w'.cell? ⟨gb, ob + k * 3, none⟩ = some (.int .u64 (g T k).1) := lrow_cell el_rt (j := 0) H 1 rfl Hg.out rfl
  go_wp2
  go_ret3
  exact ⟨rfl, H⟩
/-- Pop. -/
theorem rpop_c {w0 w : World} {F : List SP} {q : Nat} {most nx : Int} {T : List Thing} (H : At w0 (rheap q most nx T :: F) w) (hT : T.length ≤ 999999) (now : Int) :
    Calls Try.prog 15 #[.pointer (some ⟨q, 0, none⟩), .int .u64 now] w fun e w' => e = .returned (.tuple #[.int .i64 (popX T now), .int .u64 (popT T now), .bool (popB T now)]) ∧ At w0 (rheap q most nx (popR T now) :: F) w' := by
  obtain ⟨a, c, H2⟩ := rheap_open H
  unfold popX popT popR
  by_cases h0 : 0 < T.length
  · by_cases hn : now < (g T (fk T)).1
    · rw [show popB T now = false from decide_eq_false (by omega)]
      exact (rpop_early H2 hT now h0 hn).mono fun e w' h => ⟨h.1, rheap_shut h.2⟩
    · rw [show popB T now = true from decide_eq_true (by omega)]
      exact rpop_some H2 hT now h0 hn
  · rw [show popB T now = false from decide_eq_false (by omega)]
    exact (rpop_none H2 now (by omega)).mono fun e w' h => ⟨h.1, rheap_shut h.2⟩
/-- Push. -/
theorem rpush_c {w0 w : World} {F : List SP} {q : Nat} {most nx : Int} {T : List Thing} (H : At w0 (rheap q most nx T :: F) w) (hn0 : 0 ≤ nx) (hn1 : nx + 1 < 18446744073709551616) (hT : T.length ≤ 999999) (t x : Int) :
    Calls Try.prog 13 #[.pointer (some ⟨q, 0, none⟩), .int .u64 t, .int .i64 x] w fun e w' => e = .returned (.tuple #[.int .u64 (pushN most nx T), .int .i64 (pushE most T)]) ∧ At w0 (rheap q most (pushX most nx T) (pushL most nx T t x) :: F) w' := by
  unfold pushN pushE pushX pushL
  by_cases h : most ≤ (T.length : Int)
  · simp only [if_pos h]
    exact rpush_full H t x h
  · simp only [if_neg h]
    exact rpush_room H t x (by omega) hn0 hn1 hT
end Go.Proofs.Ytkbdpidcdmhhgaa
