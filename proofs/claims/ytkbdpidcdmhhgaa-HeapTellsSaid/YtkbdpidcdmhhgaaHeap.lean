/-
  The heap's inner functions, of things with numbers of either kind: compare, less, swap, up, down.
-/
import Derived.Test.YtkbdpidcdmhhgaaProg
import Derived.Test.YtkbdpidcdmhhgaaHeapLaw
import Derived.Test.YtkbdpidcdmhhgaaDraw
import Derived.Test.YtkbdpidcdmhhgaaList
import Derived.Test.YtkbdpidcdmhhgaaStore
import Derived.Test.YtkbdpidcdmhhgaaNum
namespace Go.Proofs.Ytkbdpidcdmhhgaa
open Go.RowKit Go.Hg
set_option linter.unusedSimpArgs false
set_option linter.unusedVariables false
/-- A thing's cells. -/
def thC (k : IntKind) (t : Thing) : List Value := [.int .u64 t.1, .int .u64 t.2.1, .int k t.2.2]
theorem under_ints : Try.prog.underlying 73 = some (.slice 3) := by kernel_rfl
theorem info_int : (Try.prog.info? 3).map (fun i => (i.zero, i.size, i.bytes)) = some (some (.int .i64 0), 1, 8) := by kernel_rfl
def cmpI (x y : Int) : Int := if x < y then -1 else if y < x then 1 else 0
set_option maxRecDepth 10000 in
set_option maxHeartbeats 400000 in
theorem isNaN_c (x : Int) (w : World) : Calls Try.prog 34 #[.int .u64 x] w fun e w' => e = .returned (.bool false) ∧ w = w' := by
  go_enter Try.func34, Try.ntmps34
  go_wp2
  go_ret
  exact ⟨by simp, rfl⟩
set_option maxRecDepth 10000 in
set_option maxHeartbeats 400000 in
theorem compare_c (x y : Int) (w : World) : Calls Try.prog 33 #[.int .u64 x, .int .u64 y] w fun e w' => e = .returned (.int .i64 (cmpI x y)) ∧ w = w' := by
  unfold cmpI
  by_cases h1 : x < y
  · rw [if_pos h1]
    go_enter Try.func33, Try.ntmps33
    go_wp2_with fail
    refine (isNaN_c _ _).mono ?_; rintro e w' ⟨rfl, rfl⟩
    go_wp2_with fail
    refine (isNaN_c _ _).mono ?_; rintro e w' ⟨rfl, rfl⟩
    go_wp2
    go_ret
    exact ⟨rfl, rfl⟩
  · rw [if_neg h1]
    by_cases h2 : y < x
    · rw [if_pos h2]
      go_enter Try.func33, Try.ntmps33
      go_wp2_with fail
      refine (isNaN_c _ _).mono ?_; rintro e w' ⟨rfl, rfl⟩
      go_wp2_with fail
      refine (isNaN_c _ _).mono ?_; rintro e w' ⟨rfl, rfl⟩
      go_wp2
      go_ret
      exact ⟨rfl, rfl⟩
    · rw [if_neg h2]
      go_enter Try.func33, Try.ntmps33
      go_wp2_with fail
      refine (isNaN_c _ _).mono ?_; rintro e w' ⟨rfl, rfl⟩
      go_wp2_with fail
      refine (isNaN_c _ _).mono ?_; rintro e w' ⟨rfl, rfl⟩
      go_wp2
      go_ret
      exact ⟨rfl, rfl⟩
set_option maxRecDepth 10000 in
set_option maxHeartbeats 400000 in
theorem or_c {w0 w : World} {L : List SP} {C : Nat} {p q : Int} (H : At w0 (raw C #[.int .i64 p, .int .i64 q] 3 :: L) w) :
    Calls Try.prog 32 #[.slice (some ⟨C, 0, none⟩) 2 2] w fun e w' => e = .returned (.int .i64 (if p = 0 then q else p)) ∧ w = w' := by
  have c0 : w.cell? ⟨C, 0, none⟩ = some (.int .i64 p) := raw_at (H.heap 0 rfl) rfl
  have c1 : w.cell? ⟨C, 1, none⟩ = some (.int .i64 q) := raw_at (H.heap 0 rfl) rfl
  go_enter Try.func32, Try.ntmps32
  go_wp2_with fail
  go_loop [8] (fun i => ∃ j : Nat, j ≤ 2 ∧ i = .int .i64 j ∧ (1 ≤ j → p = 0) ∧ (2 ≤ j → q = 0)) (fun i => 2 - (intOf i).toNat)
  case atStart => exact ⟨0, by omega, rfl, by omega, by omega⟩
  case round =>
    obtain ⟨j, hj, rfl, hp, hq⟩ := hrel
    rcases (by omega : j = 0 ∨ j = 1 ∨ j = 2) with rfl | rfl | rfl
    · by_cases h : p = 0
      · go_wp2
        go_round
        case rel => exact ⟨1, by omega, by go_num, by omega, by omega⟩
        case measure => simp [intOf]
      · go_wp2
        go_ret
        exact ⟨rfl, rfl⟩
    · have hp0 := hp (by omega)
      by_cases h : q = 0
      · go_wp2
        go_round
        case rel => exact ⟨2, by omega, by go_num, by omega, by omega⟩
        case measure => simp [intOf]
      · go_wp2
        go_ret
        exact ⟨rfl, rfl⟩
    · have hp0 := Lib.hid (hp (by omega))
      have hq0 := Lib.hid (hq (by omega))
      go_wp2
      go_ret
      exact ⟨by first | rfl | (rw [if_pos hp0.out, hq0.out]), rfl⟩
theorem cmp_lt (a b : Thing) : decide ((if cmpI a.1 b.1 = 0 then cmpI a.2.1 b.2.1 else cmpI a.1 b.1) < 0) = decide (lt a b) := by
  apply decide_eq_decide.2
  unfold cmpI lt
  repeat' split
  all_goals omega
theorem under_thingsI : Try.prog.underlying 56 = some (.slice 60) := by kernel_rfl
theorem el_thI : El Try.prog 60 3 24 (thC .i64) := ⟨⟨.agg #[.int .u64 0, .int .u64 0, .int .i64 0], by kernel_rfl, rfl⟩, fun _ => rfl, fun x u hu => by simp [thC] at hu; rcases hu with rfl | rfl | rfl <;> rfl⟩
set_option maxRecDepth 10000 in
set_option maxHeartbeats 1000000 in
theorem lessI_c {w0 w : World} {L : List SP} (H : At w0 L w) (a b : Thing) :
    Calls Try.prog 30 #[.agg (thC .i64 a).toArray, .agg (thC .i64 b).toArray] w fun e w' => e = .returned (.bool (decide (lt a b))) ∧ At w0 L w' := by
  have tok1 : True := trivial
  have hcl := Lib.hid (cmp_lt a b)
  go_enter Try.func30, Try.ntmps30
  go_wp2_with (first | (have _t := tok1; (with_reducible refine wpList_op rfl ?_); intro _ hK; refine wp_box_sl (v := .agg (thC .i64 a).toArray) 60 _ rfl rfl H (fun A w' (H : At w0 (raw A #[.int .u64 a.1, .int .u64 a.2.1, .int .i64 a.2.2] 60 :: L) w') _ => hK _ _ ?_); clear tok1 _t) | ((with_reducible refine wpList_op rfl ?_); intro _ hK; refine wp_box_sl (v := .agg (thC .i64 b).toArray) 60 _ rfl rfl H (fun B w' (H : At w0 (raw B #[.int .u64 b.1, .int .u64 b.2.1, .int .i64 b.2.2] 60 :: _ :: L) w') _ => hK _ _ ?_)))
  refine wpL_begin 13 (At w0 (raw B #[.int .u64 b.1, .int .u64 b.2.1, .int .i64 b.2.2] 60 :: raw A #[.int .u64 a.1, .int .u64 a.2.1, .int .i64 a.2.2] 60 :: L)) [(0, true), (1, true), (2, true), (3, true), (5, true), (6, true), (7, true), (8, true), (4, false), (9, false), (10, false), (11, false), (12, true), (13, false)] rfl (by kernel_rfl) (by kernel_rfl) ((H.drew)) ?_
  intro ops hOps hS
  replace H := H.drew
  refine wpL_take hOps hS (v := ?vOp3) rfl (fun _ _ _ h => h) (yl rfl ?yOp3) ?_
  case yOp3 => (intro w hw; go_simp; first | done | rfl)
  simp only [Act.put, Act.eval, List.setIfInBounds_toArray, List.set_cons_zero, List.set_cons_succ, Array.getD_eq_getD_getElem?, List.getElem?_toArray, List.getElem?_cons_zero, List.getElem?_cons_succ, Option.getD_some]
  refine wpL_take hOps hS rfl (fun _ _ _ h => h) (yl_get rfl _ _ rfl rfl (by kernel_rfl) (fun w hw => raw_at (hw.heap 1 rfl) rfl)) ?_
  simp only [Act.put, Act.eval, List.setIfInBounds_toArray, List.set_cons_zero, List.set_cons_succ, Array.getD_eq_getD_getElem?, List.getElem?_toArray, List.getElem?_cons_zero, List.getElem?_cons_succ, Option.getD_some]
  refine wpL_take hOps hS (v := ?vOp7) rfl (fun _ _ _ h => h) (yl rfl ?yOp7) ?_
  case yOp7 => (intro w hw; go_simp; first | done | rfl)
  simp only [Act.put, Act.eval, List.setIfInBounds_toArray, List.set_cons_zero, List.set_cons_succ, Array.getD_eq_getD_getElem?, List.getElem?_toArray, List.getElem?_cons_zero, List.getElem?_cons_succ, Option.getD_some]
  refine wpL_take hOps hS rfl (fun _ _ _ h => h) (yl_get rfl _ _ rfl rfl (by kernel_rfl) (fun w hw => raw_at (hw.heap 0 rfl) rfl)) ?_
  simp only [Act.put, Act.eval, List.setIfInBounds_toArray, List.set_cons_zero, List.set_cons_succ, Array.getD_eq_getD_getElem?, List.getElem?_toArray, List.getElem?_cons_zero, List.getElem?_cons_succ, Option.getD_some]
  refine wpL_take hOps hS (v := ?vOp11) rfl (fun _ _ _ h => h) (yl rfl ?yOp11) ?_
  case yOp11 => (intro w hw; go_simp; first | done | rfl)
  simp only [Act.put, Act.eval, List.setIfInBounds_toArray, List.set_cons_zero, List.set_cons_succ, Array.getD_eq_getD_getElem?, List.getElem?_toArray, List.getElem?_cons_zero, List.getElem?_cons_succ, Option.getD_some]
  refine wpL_take hOps hS rfl (fun _ _ _ h => h) (yl_get rfl _ _ rfl rfl (by kernel_rfl) (fun w hw => raw_at (hw.heap 1 rfl) rfl)) ?_
  simp only [Act.put, Act.eval, List.setIfInBounds_toArray, List.set_cons_zero, List.set_cons_succ, Array.getD_eq_getD_getElem?, List.getElem?_toArray, List.getElem?_cons_zero, List.getElem?_cons_succ, Option.getD_some]
  refine wpL_take hOps hS (v := ?vOp15) rfl (fun _ _ _ h => h) (yl rfl ?yOp15) ?_
  case yOp15 => (intro w hw; go_simp; first | done | rfl)
  simp only [Act.put, Act.eval, List.setIfInBounds_toArray, List.set_cons_zero, List.set_cons_succ, Array.getD_eq_getD_getElem?, List.getElem?_toArray, List.getElem?_cons_zero, List.getElem?_cons_succ, Option.getD_some]
  refine wpL_take hOps hS rfl (fun _ _ _ h => h) (yl_get rfl _ _ rfl rfl (by kernel_rfl) (fun w hw => raw_at (hw.heap 0 rfl) rfl)) ?_
  simp only [Act.put, Act.eval, List.setIfInBounds_toArray, List.set_cons_zero, List.set_cons_succ, Array.getD_eq_getD_getElem?, List.getElem?_toArray, List.getElem?_cons_zero, List.getElem?_cons_succ, Option.getD_some]
  refine wpL_next hOps rfl rfl ?_
  intro K hK
  refine wp_call _ _ _ rfl Try.func33 rfl (by kernel_rfl) ?_
  simp only [List.map_toArray, List.map_cons, List.map_nil, Act.eval, Array.getD_eq_getD_getElem?, List.getElem?_toArray, List.getElem?_cons_zero, List.getElem?_cons_succ, Option.getD_some]
  refine (compare_c _ _ _).mono ?_; rintro e w' ⟨rfl, rfl⟩
  have hS := (H)
  refine hK _ _ hS ?_
  clear hK K
  simp only [Act.put, Act.eval, List.setIfInBounds_toArray, List.set_cons_zero, List.set_cons_succ, Array.getD_eq_getD_getElem?, List.getElem?_toArray, List.getElem?_cons_zero, List.getElem?_cons_succ, Option.getD_some]
  refine wpL_next hOps rfl rfl ?_
  intro K hK
  refine wp_call _ _ _ rfl Try.func33 rfl (by kernel_rfl) ?_
  simp only [List.map_toArray, List.map_cons, List.map_nil, Act.eval, Array.getD_eq_getD_getElem?, List.getElem?_toArray, List.getElem?_cons_zero, List.getElem?_cons_succ, Option.getD_some]
  refine (compare_c _ _ _).mono ?_; rintro e w' ⟨rfl, rfl⟩
  have hS := (H)
  refine hK _ _ hS ?_
  clear hK K
  simp only [Act.put, Act.eval, List.setIfInBounds_toArray, List.set_cons_zero, List.set_cons_succ, Array.getD_eq_getD_getElem?, List.getElem?_toArray, List.getElem?_cons_zero, List.getElem?_cons_succ, Option.getD_some]
  refine wpL_next hOps rfl rfl ?_
  intro K hK
  refine wp_buildSlice2_sl _ _ _ rfl under_ints info_int rfl rfl rfl rfl H (fun C w' H _ => ?_)
  have hS := (H.tail)
  refine hK _ _ hS ?_
  clear hK K
  simp only [Act.put, Act.eval, List.setIfInBounds_toArray, List.set_cons_zero, List.set_cons_succ, Array.getD_eq_getD_getElem?, List.getElem?_toArray, List.getElem?_cons_zero, List.getElem?_cons_succ, Option.getD_some]
  refine wpL_next hOps rfl rfl ?_
  intro K hK
  refine wp_call _ _ _ rfl Try.func32 rfl (by kernel_rfl) ?_
  simp only [List.map_toArray, List.map_cons, List.map_nil, Act.eval, Array.getD_eq_getD_getElem?, List.getElem?_toArray, List.getElem?_cons_zero, List.getElem?_cons_succ, Option.getD_some]
  refine (or_c H).mono ?_; rintro e w' ⟨rfl, rfl⟩
  have hS := (H.tail)
  refine hK _ _ hS ?_
  clear hK K
  simp only [Act.put, Act.eval, List.setIfInBounds_toArray, List.set_cons_zero, List.set_cons_succ, Array.getD_eq_getD_getElem?, List.getElem?_toArray, List.getElem?_cons_zero, List.getElem?_cons_succ, Option.getD_some]
  refine wpL_take hOps hS (v := ?vOp34) rfl (fun _ _ _ h => h) (yl rfl ?yOp34) ?_
  case yOp34 => (intro w hw; go_simp; first | done | rfl)
  simp only [Act.put, Act.eval, List.setIfInBounds_toArray, List.set_cons_zero, List.set_cons_succ, Array.getD_eq_getD_getElem?, List.getElem?_toArray, List.getElem?_cons_zero, List.getElem?_cons_succ, Option.getD_some]
  refine wpL_last hOps rfl rfl ?_
  intro K hK
  refine wp_run (v := .bool (decide (lt a b))) (by rw [← hcl.out]; rfl) ?_
  refine hK _ _ ?_
  clear hK K hOps hS ops
  simp only [Act.put, Act.eval, List.setIfInBounds_toArray, List.set_cons_zero, List.set_cons_succ, Array.getD_eq_getD_getElem?, List.getElem?_toArray, List.getElem?_cons_zero, List.getElem?_cons_succ, Option.getD_some]
  go_wp2
  all_goals
    go_ret
    exact ⟨rfl, H.tail.tail.tail⟩
/-- The heap's own cells. -/
def hdI (p : Nat) (most nx : Int) (a : Option Addr) (n cap : Nat) : SP := raw p #[.int .i64 most, .slice a n cap, .int .u64 nx] 58
set_option maxRecDepth 10000 in
set_option maxHeartbeats 1000000 in
theorem swapI_c {w0 w : World} {L : List SP} {p : Nat} {most nx : Int} {a : Option Addr} {cap : Nat} {l : List Thing}
    (H : At w0 (hdI p most nx a l.length cap :: lrow 60 3 (thC .i64) (.slice a l.length cap) l :: L) w) (i j : Nat) (hi : (i : Int) < l.length) (hj : (j : Int) < l.length) :
    Calls Try.prog 24 #[.pointer (some ⟨p, 0, none⟩), .int .i64 i, .int .i64 j] w fun e w' => ∃ v, e = .returned v ∧ At w0 (hdI p most nx a (sw l i j).length cap :: lrow 60 3 (thC .i64) (.slice a (sw l i j).length cap) (sw l i j) :: L) w' := by
  unfold hdI at H ⊢
  obtain ⟨gb, ob, rfl⟩ := lrow_place H 1 rfl (by omega)
  have hgi : l[i]? = some (g l i) := g_get (by omega)
  have hgj : l[j]? = some (g l j) := g_get (by omega)
  have Hi := Lib.hid hgi
  have Hj := Lib.hid hgj
  clear hgi hgj
  go_enter Try.func24, Try.ntmps24
  refine wpM_begin [25, 27] ((At w0 (raw p #[.int .i64 most, .slice (some ⟨gb, ob, none⟩) l.length cap, .int .u64 nx] 58 :: lrow 60 3 (thC .i64) (.slice (some ⟨gb, ob, none⟩) l.length cap) l :: L))) [(0, 2), (1, 2), (2, 2), (3, 1), (4, 2), (5, 2), (6, 2), (7, 2), (8, 1), (9, 2), (10, 2), (11, 2), (12, 2), (13, 1), (14, 2), (15, 2), (16, 1), (17, 2), (18, 2), (19, 2), (20, 1), (21, 2), (22, 2), (23, 1), (24, 2), (25, 0), (26, 2), (27, 0)] rfl (by kernel_rfl) (by kernel_rfl) ((H.drew)) ?_
  intro ops hOps hS
  replace H := H.drew
  refine wpM_free hOps rfl (fun _ _ _ h => h) (yl_move rfl _ rfl) ?_
  simp only [Act.put, Act.eval, List.setIfInBounds_toArray, List.set_cons_zero, List.set_cons_succ, Array.getD_eq_getD_getElem?, List.getElem?_toArray, List.getElem?_cons_zero, List.getElem?_cons_succ, Option.getD_some]
  refine wpM_free hOps rfl (fun _ _ _ h => h) (yl_nil rfl _ rfl _ rfl) ?_
  simp only [Act.put, Act.eval, List.setIfInBounds_toArray, List.set_cons_zero, List.set_cons_succ, Array.getD_eq_getD_getElem?, List.getElem?_toArray, List.getElem?_cons_zero, List.getElem?_cons_succ, Option.getD_some]
  refine wpM_free hOps (v := ?vOp46) rfl (fun _ _ _ h => h) (yl rfl ?yOp46) ?_
  case yOp46 => (intro w hw; go_simp; first | done | rfl)
  simp only [Act.put, Act.eval, List.setIfInBounds_toArray, List.set_cons_zero, List.set_cons_succ, Array.getD_eq_getD_getElem?, List.getElem?_toArray, List.getElem?_cons_zero, List.getElem?_cons_succ, Option.getD_some]
  refine wpM_take hOps hS rfl (fun _ _ _ h => h) (yl_get rfl _ _ rfl rfl (by kernel_rfl) (fun w hw => raw_at (At.heap hw 0 rfl) rfl)) ?_
  simp only [Act.put, Act.eval, List.setIfInBounds_toArray, List.set_cons_zero, List.set_cons_succ, Array.getD_eq_getD_getElem?, List.getElem?_toArray, List.getElem?_cons_zero, List.getElem?_cons_succ, Option.getD_some]
  refine wpM_free hOps rfl (fun _ _ _ h => h) (yl_move rfl _ rfl) ?_
  simp only [Act.put, Act.eval, List.setIfInBounds_toArray, List.set_cons_zero, List.set_cons_succ, Array.getD_eq_getD_getElem?, List.getElem?_toArray, List.getElem?_cons_zero, List.getElem?_cons_succ, Option.getD_some]
  refine wpM_free hOps rfl (fun _ _ _ h => h) (yl_move rfl _ rfl) ?_
  simp only [Act.put, Act.eval, List.setIfInBounds_toArray, List.set_cons_zero, List.set_cons_succ, Array.getD_eq_getD_getElem?, List.getElem?_toArray, List.getElem?_cons_zero, List.getElem?_cons_succ, Option.getD_some]
  refine wpM_free hOps rfl (fun _ _ _ h => h) (yl_nil rfl _ rfl _ rfl) ?_
  simp only [Act.put, Act.eval, List.setIfInBounds_toArray, List.set_cons_zero, List.set_cons_succ, Array.getD_eq_getD_getElem?, List.getElem?_toArray, List.getElem?_cons_zero, List.getElem?_cons_succ, Option.getD_some]
  refine wpM_free hOps (v := ?vOp59) rfl (fun _ _ _ h => h) (yl rfl ?yOp59) ?_
  case yOp59 => (intro w hw; go_simp; first | done | rfl)
  simp only [Act.put, Act.eval, List.setIfInBounds_toArray, List.set_cons_zero, List.set_cons_succ, Array.getD_eq_getD_getElem?, List.getElem?_toArray, List.getElem?_cons_zero, List.getElem?_cons_succ, Option.getD_some]
  refine wpM_take hOps hS rfl (fun _ _ _ h => h) (yl_get rfl _ _ rfl rfl (by kernel_rfl) (fun w hw => raw_at (At.heap hw 0 rfl) rfl)) ?_
  simp only [Act.put, Act.eval, List.setIfInBounds_toArray, List.set_cons_zero, List.set_cons_succ, Array.getD_eq_getD_getElem?, List.getElem?_toArray, List.getElem?_cons_zero, List.getElem?_cons_succ, Option.getD_some]
  refine wpM_free hOps rfl (fun _ _ _ h => h) (yl_move rfl _ rfl) ?_
  simp only [Act.put, Act.eval, List.setIfInBounds_toArray, List.set_cons_zero, List.set_cons_succ, Array.getD_eq_getD_getElem?, List.getElem?_toArray, List.getElem?_cons_zero, List.getElem?_cons_succ, Option.getD_some]
  refine wpM_free hOps rfl (fun _ _ _ h => h) (yl_move rfl _ rfl) ?_
  simp only [Act.put, Act.eval, List.setIfInBounds_toArray, List.set_cons_zero, List.set_cons_succ, Array.getD_eq_getD_getElem?, List.getElem?_toArray, List.getElem?_cons_zero, List.getElem?_cons_succ, Option.getD_some]
  refine wpM_free hOps rfl (fun _ _ _ h => h) (yl_nil rfl _ rfl _ rfl) ?_
  simp only [Act.put, Act.eval, List.setIfInBounds_toArray, List.set_cons_zero, List.set_cons_succ, Array.getD_eq_getD_getElem?, List.getElem?_toArray, List.getElem?_cons_zero, List.getElem?_cons_succ, Option.getD_some]
  refine wpM_free hOps (v := ?vOp72) rfl (fun _ _ _ h => h) (yl rfl ?yOp72) ?_
  case yOp72 => (intro w hw; go_simp; first | done | rfl)
  simp only [Act.put, Act.eval, List.setIfInBounds_toArray, List.set_cons_zero, List.set_cons_succ, Array.getD_eq_getD_getElem?, List.getElem?_toArray, List.getElem?_cons_zero, List.getElem?_cons_succ, Option.getD_some]
  refine wpM_take hOps hS rfl (fun _ _ _ h => h) (yl_get rfl _ _ rfl rfl (by kernel_rfl) (fun w hw => raw_at (At.heap hw 0 rfl) rfl)) ?_
  simp only [Act.put, Act.eval, List.setIfInBounds_toArray, List.set_cons_zero, List.set_cons_succ, Array.getD_eq_getD_getElem?, List.getElem?_toArray, List.getElem?_cons_zero, List.getElem?_cons_succ, Option.getD_some]
  refine wpM_free hOps rfl (fun _ _ _ h => h) (yl_move rfl _ rfl) ?_
  simp only [Act.put, Act.eval, List.setIfInBounds_toArray, List.set_cons_zero, List.set_cons_succ, Array.getD_eq_getD_getElem?, List.getElem?_toArray, List.getElem?_cons_zero, List.getElem?_cons_succ, Option.getD_some]
  refine wpM_free hOps (v := ?vOp79) rfl (fun _ _ _ h => h) (yl rfl ?yOp79) ?_
  case yOp79 => (intro w hw; go_simp; first | done | rfl)
  simp only [Act.put, Act.eval, List.setIfInBounds_toArray, List.set_cons_zero, List.set_cons_succ, Array.getD_eq_getD_getElem?, List.getElem?_toArray, List.getElem?_cons_zero, List.getElem?_cons_succ, Option.getD_some]
  refine wpM_take hOps hS rfl (fun _ _ _ h => h) (yl_mid rfl _ _ rfl rfl (thC .i64 (g l j)) (by kernel_rfl) (by kernel_rfl) (fun w hw => lrow_at el_thI hw 1 rfl Hj.out)) ?_
  simp only [Act.put, Act.eval, List.setIfInBounds_toArray, List.set_cons_zero, List.set_cons_succ, Array.getD_eq_getD_getElem?, List.getElem?_toArray, List.getElem?_cons_zero, List.getElem?_cons_succ, Option.getD_some]
  refine wpM_free hOps rfl (fun _ _ _ h => h) (yl_move rfl _ rfl) ?_
  simp only [Act.put, Act.eval, List.setIfInBounds_toArray, List.set_cons_zero, List.set_cons_succ, Array.getD_eq_getD_getElem?, List.getElem?_toArray, List.getElem?_cons_zero, List.getElem?_cons_succ, Option.getD_some]
  refine wpM_free hOps rfl (fun _ _ _ h => h) (yl_nil rfl _ rfl _ rfl) ?_
  simp only [Act.put, Act.eval, List.setIfInBounds_toArray, List.set_cons_zero, List.set_cons_succ, Array.getD_eq_getD_getElem?, List.getElem?_toArray, List.getElem?_cons_zero, List.getElem?_cons_succ, Option.getD_some]
  refine wpM_free hOps (v := ?vOp89) rfl (fun _ _ _ h => h) (yl rfl ?yOp89) ?_
  case yOp89 => (intro w hw; go_simp; first | done | rfl)
  simp only [Act.put, Act.eval, List.setIfInBounds_toArray, List.set_cons_zero, List.set_cons_succ, Array.getD_eq_getD_getElem?, List.getElem?_toArray, List.getElem?_cons_zero, List.getElem?_cons_succ, Option.getD_some]
  refine wpM_take hOps hS rfl (fun _ _ _ h => h) (yl_get rfl _ _ rfl rfl (by kernel_rfl) (fun w hw => raw_at (At.heap hw 0 rfl) rfl)) ?_
  simp only [Act.put, Act.eval, List.setIfInBounds_toArray, List.set_cons_zero, List.set_cons_succ, Array.getD_eq_getD_getElem?, List.getElem?_toArray, List.getElem?_cons_zero, List.getElem?_cons_succ, Option.getD_some]
  refine wpM_free hOps rfl (fun _ _ _ h => h) (yl_move rfl _ rfl) ?_
  simp only [Act.put, Act.eval, List.setIfInBounds_toArray, List.set_cons_zero, List.set_cons_succ, Array.getD_eq_getD_getElem?, List.getElem?_toArray, List.getElem?_cons_zero, List.getElem?_cons_succ, Option.getD_some]
  refine wpM_free hOps (v := ?vOp96) rfl (fun _ _ _ h => h) (yl rfl ?yOp96) ?_
  case yOp96 => (intro w hw; go_simp; first | done | rfl)
  simp only [Act.put, Act.eval, List.setIfInBounds_toArray, List.set_cons_zero, List.set_cons_succ, Array.getD_eq_getD_getElem?, List.getElem?_toArray, List.getElem?_cons_zero, List.getElem?_cons_succ, Option.getD_some]
  refine wpM_take hOps hS rfl (fun _ _ _ h => h) (yl_mid rfl _ _ rfl rfl (thC .i64 (g l i)) (by kernel_rfl) (by kernel_rfl) (fun w hw => lrow_at el_thI hw 1 rfl Hi.out)) ?_
  simp only [Act.put, Act.eval, List.setIfInBounds_toArray, List.set_cons_zero, List.set_cons_succ, Array.getD_eq_getD_getElem?, List.getElem?_toArray, List.getElem?_cons_zero, List.getElem?_cons_succ, Option.getD_some]
  refine wpM_free hOps (v := ?vOp100) rfl (fun _ _ _ h => h) (yl rfl ?yOp100) ?_
  case yOp100 => (intro w hw; go_simp; first | done | rfl)
  simp only [Act.put, Act.eval, List.setIfInBounds_toArray, List.set_cons_zero, List.set_cons_succ, Array.getD_eq_getD_getElem?, List.getElem?_toArray, List.getElem?_cons_zero, List.getElem?_cons_succ, Option.getD_some]
  refine wpM_next hOps rfl rfl ?_
  intro K hK
  refine wp_lstore el_thI (z := g l j) _ _ rfl rfl rfl rfl (H.pull 1 rfl) (by omega) (fun w' H => ?_)
  refine hK _ _ (.inl (by decide)) ?_
  clear hK K
  simp only [Act.put, Act.eval, List.setIfInBounds_toArray, List.set_cons_zero, List.set_cons_succ, Array.getD_eq_getD_getElem?, List.getElem?_toArray, List.getElem?_cons_zero, List.getElem?_cons_succ, Option.getD_some]
  refine wpM_free hOps (v := ?vOp105) rfl (fun _ _ _ h => h) (yl rfl ?yOp105) ?_
  case yOp105 => (intro w hw; go_simp; first | done | rfl)
  simp only [Act.put, Act.eval, List.setIfInBounds_toArray, List.set_cons_zero, List.set_cons_succ, Array.getD_eq_getD_getElem?, List.getElem?_toArray, List.getElem?_cons_zero, List.getElem?_cons_succ, Option.getD_some]
  refine wpM_next hOps rfl rfl ?_
  intro K hK
  have HL : (l.set i (g l j)).length = l.length := List.length_set
  refine wp_lstore el_thI (z := g l i) _ _ rfl rfl rfl rfl H (by omega) (fun w' H => ?_)
  refine hK _ _ (.inl (by decide)) ?_
  clear hK K
  simp only [Act.put, Act.eval, List.setIfInBounds_toArray, List.set_cons_zero, List.set_cons_succ, Array.getD_eq_getD_getElem?, List.getElem?_toArray, List.getElem?_cons_zero, List.getElem?_cons_succ, Option.getD_some]
  refine wpM_end ?_
  clear hOps hS ops
  go_wp2
  go_end0
  refine ⟨_, rfl, ?_⟩
  have H2 : At w0 (raw p #[.int .i64 most, .slice (some ⟨gb, ob, none⟩) l.length cap, .int .u64 nx] 58 :: lrow 60 3 (thC .i64) (.slice (some ⟨gb, ob, none⟩) (sw l i j).length cap) (sw l i j) :: L) _ := H.pull 1 rfl
  rw [sw_length] at H2 ⊢
  exact H2
theorem under_thingsU : Try.prog.underlying 63 = some (.slice 67) := by kernel_rfl
theorem el_thU : El Try.prog 67 3 24 (thC .u64) := ⟨⟨.agg #[.int .u64 0, .int .u64 0, .int .u64 0], by kernel_rfl, rfl⟩, fun _ => rfl, fun x u hu => by simp [thC] at hu; rcases hu with rfl | rfl | rfl <;> rfl⟩
set_option maxRecDepth 10000 in
set_option maxHeartbeats 1000000 in
theorem lessU_c {w0 w : World} {L : List SP} (H : At w0 L w) (a b : Thing) :
    Calls Try.prog 31 #[.agg (thC .u64 a).toArray, .agg (thC .u64 b).toArray] w fun e w' => e = .returned (.bool (decide (lt a b))) ∧ At w0 L w' := by
  have tok1 : True := trivial
  have hcl := Lib.hid (cmp_lt a b)
  go_enter Try.func31, Try.ntmps31
  go_wp2_with (first | (have _t := tok1; (with_reducible refine wpList_op rfl ?_); intro _ hK; refine wp_box_sl (v := .agg (thC .u64 a).toArray) 67 _ rfl rfl H (fun A w' (H : At w0 (raw A #[.int .u64 a.1, .int .u64 a.2.1, .int .u64 a.2.2] 67 :: L) w') _ => hK _ _ ?_); clear tok1 _t) | ((with_reducible refine wpList_op rfl ?_); intro _ hK; refine wp_box_sl (v := .agg (thC .u64 b).toArray) 67 _ rfl rfl H (fun B w' (H : At w0 (raw B #[.int .u64 b.1, .int .u64 b.2.1, .int .u64 b.2.2] 67 :: _ :: L) w') _ => hK _ _ ?_)))
  refine wpL_begin 13 (At w0 (raw B #[.int .u64 b.1, .int .u64 b.2.1, .int .u64 b.2.2] 67 :: raw A #[.int .u64 a.1, .int .u64 a.2.1, .int .u64 a.2.2] 67 :: L)) [(0, true), (1, true), (2, true), (3, true), (5, true), (6, true), (7, true), (8, true), (4, false), (9, false), (10, false), (11, false), (12, true), (13, false)] rfl (by kernel_rfl) (by kernel_rfl) ((H.drew)) ?_
  intro ops hOps hS
  replace H := H.drew
  refine wpL_take hOps hS (v := ?vOp113) rfl (fun _ _ _ h => h) (yl rfl ?yOp113) ?_
  case yOp113 => (intro w hw; go_simp; first | done | rfl)
  simp only [Act.put, Act.eval, List.setIfInBounds_toArray, List.set_cons_zero, List.set_cons_succ, Array.getD_eq_getD_getElem?, List.getElem?_toArray, List.getElem?_cons_zero, List.getElem?_cons_succ, Option.getD_some]
  refine wpL_take hOps hS rfl (fun _ _ _ h => h) (yl_get rfl _ _ rfl rfl (by kernel_rfl) (fun w hw => raw_at (hw.heap 1 rfl) rfl)) ?_
  simp only [Act.put, Act.eval, List.setIfInBounds_toArray, List.set_cons_zero, List.set_cons_succ, Array.getD_eq_getD_getElem?, List.getElem?_toArray, List.getElem?_cons_zero, List.getElem?_cons_succ, Option.getD_some]
  refine wpL_take hOps hS (v := ?vOp117) rfl (fun _ _ _ h => h) (yl rfl ?yOp117) ?_
  case yOp117 => (intro w hw; go_simp; first | done | rfl)
  simp only [Act.put, Act.eval, List.setIfInBounds_toArray, List.set_cons_zero, List.set_cons_succ, Array.getD_eq_getD_getElem?, List.getElem?_toArray, List.getElem?_cons_zero, List.getElem?_cons_succ, Option.getD_some]
  refine wpL_take hOps hS rfl (fun _ _ _ h => h) (yl_get rfl _ _ rfl rfl (by kernel_rfl) (fun w hw => raw_at (hw.heap 0 rfl) rfl)) ?_
  simp only [Act.put, Act.eval, List.setIfInBounds_toArray, List.set_cons_zero, List.set_cons_succ, Array.getD_eq_getD_getElem?, List.getElem?_toArray, List.getElem?_cons_zero, List.getElem?_cons_succ, Option.getD_some]
  refine wpL_take hOps hS (v := ?vOp121) rfl (fun _ _ _ h => h) (yl rfl ?yOp121) ?_
  case yOp121 => (intro w hw; go_simp; first | done | rfl)
  simp only [Act.put, Act.eval, List.setIfInBounds_toArray, List.set_cons_zero, List.set_cons_succ, Array.getD_eq_getD_getElem?, List.getElem?_toArray, List.getElem?_cons_zero, List.getElem?_cons_succ, Option.getD_some]
  refine wpL_take hOps hS rfl (fun _ _ _ h => h) (yl_get rfl _ _ rfl rfl (by kernel_rfl) (fun w hw => raw_at (hw.heap 1 rfl) rfl)) ?_
  simp only [Act.put, Act.eval, List.setIfInBounds_toArray, List.set_cons_zero, List.set_cons_succ, Array.getD_eq_getD_getElem?, List.getElem?_toArray, List.getElem?_cons_zero, List.getElem?_cons_succ, Option.getD_some]
  refine wpL_take hOps hS (v := ?vOp125) rfl (fun _ _ _ h => h) (yl rfl ?yOp125) ?_
  case yOp125 => (intro w hw; go_simp; first | done | rfl)
  simp only [Act.put, Act.eval, List.setIfInBounds_toArray, List.set_cons_zero, List.set_cons_succ, Array.getD_eq_getD_getElem?, List.getElem?_toArray, List.getElem?_cons_zero, List.getElem?_cons_succ, Option.getD_some]
  refine wpL_take hOps hS rfl (fun _ _ _ h => h) (yl_get rfl _ _ rfl rfl (by kernel_rfl) (fun w hw => raw_at (hw.heap 0 rfl) rfl)) ?_
  simp only [Act.put, Act.eval, List.setIfInBounds_toArray, List.set_cons_zero, List.set_cons_succ, Array.getD_eq_getD_getElem?, List.getElem?_toArray, List.getElem?_cons_zero, List.getElem?_cons_succ, Option.getD_some]
  refine wpL_next hOps rfl rfl ?_
  intro K hK
  refine wp_call _ _ _ rfl Try.func33 rfl (by kernel_rfl) ?_
  simp only [List.map_toArray, List.map_cons, List.map_nil, Act.eval, Array.getD_eq_getD_getElem?, List.getElem?_toArray, List.getElem?_cons_zero, List.getElem?_cons_succ, Option.getD_some]
  refine (compare_c _ _ _).mono ?_; rintro e w' ⟨rfl, rfl⟩
  have hS := (H)
  refine hK _ _ hS ?_
  clear hK K
  simp only [Act.put, Act.eval, List.setIfInBounds_toArray, List.set_cons_zero, List.set_cons_succ, Array.getD_eq_getD_getElem?, List.getElem?_toArray, List.getElem?_cons_zero, List.getElem?_cons_succ, Option.getD_some]
  refine wpL_next hOps rfl rfl ?_
  intro K hK
  refine wp_call _ _ _ rfl Try.func33 rfl (by kernel_rfl) ?_
  simp only [List.map_toArray, List.map_cons, List.map_nil, Act.eval, Array.getD_eq_getD_getElem?, List.getElem?_toArray, List.getElem?_cons_zero, List.getElem?_cons_succ, Option.getD_some]
  refine (compare_c _ _ _).mono ?_; rintro e w' ⟨rfl, rfl⟩
  have hS := (H)
  refine hK _ _ hS ?_
  clear hK K
  simp only [Act.put, Act.eval, List.setIfInBounds_toArray, List.set_cons_zero, List.set_cons_succ, Array.getD_eq_getD_getElem?, List.getElem?_toArray, List.getElem?_cons_zero, List.getElem?_cons_succ, Option.getD_some]
  refine wpL_next hOps rfl rfl ?_
  intro K hK
  refine wp_buildSlice2_sl _ _ _ rfl under_ints info_int rfl rfl rfl rfl H (fun C w' H _ => ?_)
  have hS := (H.tail)
  refine hK _ _ hS ?_
  clear hK K
  simp only [Act.put, Act.eval, List.setIfInBounds_toArray, List.set_cons_zero, List.set_cons_succ, Array.getD_eq_getD_getElem?, List.getElem?_toArray, List.getElem?_cons_zero, List.getElem?_cons_succ, Option.getD_some]
  refine wpL_next hOps rfl rfl ?_
  intro K hK
  refine wp_call _ _ _ rfl Try.func32 rfl (by kernel_rfl) ?_
  simp only [List.map_toArray, List.map_cons, List.map_nil, Act.eval, Array.getD_eq_getD_getElem?, List.getElem?_toArray, List.getElem?_cons_zero, List.getElem?_cons_succ, Option.getD_some]
  refine (or_c H).mono ?_; rintro e w' ⟨rfl, rfl⟩
  have hS := (H.tail)
  refine hK _ _ hS ?_
  clear hK K
  simp only [Act.put, Act.eval, List.setIfInBounds_toArray, List.set_cons_zero, List.set_cons_succ, Array.getD_eq_getD_getElem?, List.getElem?_toArray, List.getElem?_cons_zero, List.getElem?_cons_succ, Option.getD_some]
  refine wpL_take hOps hS (v := ?vOp144) rfl (fun _ _ _ h => h) (yl rfl ?yOp144) ?_
  case yOp144 => (intro w hw; go_simp; first | done | rfl)
  simp only [Act.put, Act.eval, List.setIfInBounds_toArray, List.set_cons_zero, List.set_cons_succ, Array.getD_eq_getD_getElem?, List.getElem?_toArray, List.getElem?_cons_zero, List.getElem?_cons_succ, Option.getD_some]
  refine wpL_last hOps rfl rfl ?_
  intro K hK
  refine wp_run (v := .bool (decide (lt a b))) (by rw [← hcl.out]; rfl) ?_
  refine hK _ _ ?_
  clear hK K hOps hS ops
  simp only [Act.put, Act.eval, List.setIfInBounds_toArray, List.set_cons_zero, List.set_cons_succ, Array.getD_eq_getD_getElem?, List.getElem?_toArray, List.getElem?_cons_zero, List.getElem?_cons_succ, Option.getD_some]
  go_wp2
  all_goals
    go_ret
    exact ⟨rfl, H.tail.tail.tail⟩
/-- The heap's own cells. -/
def hdU (p : Nat) (most nx : Int) (a : Option Addr) (n cap : Nat) : SP := raw p #[.int .i64 most, .slice a n cap, .int .u64 nx] 65
set_option maxRecDepth 10000 in
set_option maxHeartbeats 1000000 in
theorem swapU_c {w0 w : World} {L : List SP} {p : Nat} {most nx : Int} {a : Option Addr} {cap : Nat} {l : List Thing}
    (H : At w0 (hdU p most nx a l.length cap :: lrow 67 3 (thC .u64) (.slice a l.length cap) l :: L) w) (i j : Nat) (hi : (i : Int) < l.length) (hj : (j : Int) < l.length) :
    Calls Try.prog 28 #[.pointer (some ⟨p, 0, none⟩), .int .i64 i, .int .i64 j] w fun e w' => ∃ v, e = .returned v ∧ At w0 (hdU p most nx a (sw l i j).length cap :: lrow 67 3 (thC .u64) (.slice a (sw l i j).length cap) (sw l i j) :: L) w' := by
  unfold hdU at H ⊢
  obtain ⟨gb, ob, rfl⟩ := lrow_place H 1 rfl (by omega)
  have hgi : l[i]? = some (g l i) := g_get (by omega)
  have hgj : l[j]? = some (g l j) := g_get (by omega)
  have Hi := Lib.hid hgi
  have Hj := Lib.hid hgj
  clear hgi hgj
  go_enter Try.func28, Try.ntmps28
  refine wpM_begin [25, 27] ((At w0 (raw p #[.int .i64 most, .slice (some ⟨gb, ob, none⟩) l.length cap, .int .u64 nx] 65 :: lrow 67 3 (thC .u64) (.slice (some ⟨gb, ob, none⟩) l.length cap) l :: L))) [(0, 2), (1, 2), (2, 2), (3, 1), (4, 2), (5, 2), (6, 2), (7, 2), (8, 1), (9, 2), (10, 2), (11, 2), (12, 2), (13, 1), (14, 2), (15, 2), (16, 1), (17, 2), (18, 2), (19, 2), (20, 1), (21, 2), (22, 2), (23, 1), (24, 2), (25, 0), (26, 2), (27, 0)] rfl (by kernel_rfl) (by kernel_rfl) ((H.drew)) ?_
  intro ops hOps hS
  replace H := H.drew
  refine wpM_free hOps rfl (fun _ _ _ h => h) (yl_move rfl _ rfl) ?_
  simp only [Act.put, Act.eval, List.setIfInBounds_toArray, List.set_cons_zero, List.set_cons_succ, Array.getD_eq_getD_getElem?, List.getElem?_toArray, List.getElem?_cons_zero, List.getElem?_cons_succ, Option.getD_some]
  refine wpM_free hOps rfl (fun _ _ _ h => h) (yl_nil rfl _ rfl _ rfl) ?_
  simp only [Act.put, Act.eval, List.setIfInBounds_toArray, List.set_cons_zero, List.set_cons_succ, Array.getD_eq_getD_getElem?, List.getElem?_toArray, List.getElem?_cons_zero, List.getElem?_cons_succ, Option.getD_some]
  refine wpM_free hOps (v := ?vOp156) rfl (fun _ _ _ h => h) (yl rfl ?yOp156) ?_
  case yOp156 => (intro w hw; go_simp; first | done | rfl)
  simp only [Act.put, Act.eval, List.setIfInBounds_toArray, List.set_cons_zero, List.set_cons_succ, Array.getD_eq_getD_getElem?, List.getElem?_toArray, List.getElem?_cons_zero, List.getElem?_cons_succ, Option.getD_some]
  refine wpM_take hOps hS rfl (fun _ _ _ h => h) (yl_get rfl _ _ rfl rfl (by kernel_rfl) (fun w hw => raw_at (At.heap hw 0 rfl) rfl)) ?_
  simp only [Act.put, Act.eval, List.setIfInBounds_toArray, List.set_cons_zero, List.set_cons_succ, Array.getD_eq_getD_getElem?, List.getElem?_toArray, List.getElem?_cons_zero, List.getElem?_cons_succ, Option.getD_some]
  refine wpM_free hOps rfl (fun _ _ _ h => h) (yl_move rfl _ rfl) ?_
  simp only [Act.put, Act.eval, List.setIfInBounds_toArray, List.set_cons_zero, List.set_cons_succ, Array.getD_eq_getD_getElem?, List.getElem?_toArray, List.getElem?_cons_zero, List.getElem?_cons_succ, Option.getD_some]
  refine wpM_free hOps rfl (fun _ _ _ h => h) (yl_move rfl _ rfl) ?_
  simp only [Act.put, Act.eval, List.setIfInBounds_toArray, List.set_cons_zero, List.set_cons_succ, Array.getD_eq_getD_getElem?, List.getElem?_toArray, List.getElem?_cons_zero, List.getElem?_cons_succ, Option.getD_some]
  refine wpM_free hOps rfl (fun _ _ _ h => h) (yl_nil rfl _ rfl _ rfl) ?_
  simp only [Act.put, Act.eval, List.setIfInBounds_toArray, List.set_cons_zero, List.set_cons_succ, Array.getD_eq_getD_getElem?, List.getElem?_toArray, List.getElem?_cons_zero, List.getElem?_cons_succ, Option.getD_some]
  refine wpM_free hOps (v := ?vOp169) rfl (fun _ _ _ h => h) (yl rfl ?yOp169) ?_
  case yOp169 => (intro w hw; go_simp; first | done | rfl)
  simp only [Act.put, Act.eval, List.setIfInBounds_toArray, List.set_cons_zero, List.set_cons_succ, Array.getD_eq_getD_getElem?, List.getElem?_toArray, List.getElem?_cons_zero, List.getElem?_cons_succ, Option.getD_some]
  refine wpM_take hOps hS rfl (fun _ _ _ h => h) (yl_get rfl _ _ rfl rfl (by kernel_rfl) (fun w hw => raw_at (At.heap hw 0 rfl) rfl)) ?_
  simp only [Act.put, Act.eval, List.setIfInBounds_toArray, List.set_cons_zero, List.set_cons_succ, Array.getD_eq_getD_getElem?, List.getElem?_toArray, List.getElem?_cons_zero, List.getElem?_cons_succ, Option.getD_some]
  refine wpM_free hOps rfl (fun _ _ _ h => h) (yl_move rfl _ rfl) ?_
  simp only [Act.put, Act.eval, List.setIfInBounds_toArray, List.set_cons_zero, List.set_cons_succ, Array.getD_eq_getD_getElem?, List.getElem?_toArray, List.getElem?_cons_zero, List.getElem?_cons_succ, Option.getD_some]
  refine wpM_free hOps rfl (fun _ _ _ h => h) (yl_move rfl _ rfl) ?_
  simp only [Act.put, Act.eval, List.setIfInBounds_toArray, List.set_cons_zero, List.set_cons_succ, Array.getD_eq_getD_getElem?, List.getElem?_toArray, List.getElem?_cons_zero, List.getElem?_cons_succ, Option.getD_some]
  refine wpM_free hOps rfl (fun _ _ _ h => h) (yl_nil rfl _ rfl _ rfl) ?_
  simp only [Act.put, Act.eval, List.setIfInBounds_toArray, List.set_cons_zero, List.set_cons_succ, Array.getD_eq_getD_getElem?, List.getElem?_toArray, List.getElem?_cons_zero, List.getElem?_cons_succ, Option.getD_some]
  refine wpM_free hOps (v := ?vOp182) rfl (fun _ _ _ h => h) (yl rfl ?yOp182) ?_
  case yOp182 => (intro w hw; go_simp; first | done | rfl)
  simp only [Act.put, Act.eval, List.setIfInBounds_toArray, List.set_cons_zero, List.set_cons_succ, Array.getD_eq_getD_getElem?, List.getElem?_toArray, List.getElem?_cons_zero, List.getElem?_cons_succ, Option.getD_some]
  refine wpM_take hOps hS rfl (fun _ _ _ h => h) (yl_get rfl _ _ rfl rfl (by kernel_rfl) (fun w hw => raw_at (At.heap hw 0 rfl) rfl)) ?_
  simp only [Act.put, Act.eval, List.setIfInBounds_toArray, List.set_cons_zero, List.set_cons_succ, Array.getD_eq_getD_getElem?, List.getElem?_toArray, List.getElem?_cons_zero, List.getElem?_cons_succ, Option.getD_some]
  refine wpM_free hOps rfl (fun _ _ _ h => h) (yl_move rfl _ rfl) ?_
  simp only [Act.put, Act.eval, List.setIfInBounds_toArray, List.set_cons_zero, List.set_cons_succ, Array.getD_eq_getD_getElem?, List.getElem?_toArray, List.getElem?_cons_zero, List.getElem?_cons_succ, Option.getD_some]
  refine wpM_free hOps (v := ?vOp189) rfl (fun _ _ _ h => h) (yl rfl ?yOp189) ?_
  case yOp189 => (intro w hw; go_simp; first | done | rfl)
  simp only [Act.put, Act.eval, List.setIfInBounds_toArray, List.set_cons_zero, List.set_cons_succ, Array.getD_eq_getD_getElem?, List.getElem?_toArray, List.getElem?_cons_zero, List.getElem?_cons_succ, Option.getD_some]
  refine wpM_take hOps hS rfl (fun _ _ _ h => h) (yl_mid rfl _ _ rfl rfl (thC .u64 (g l j)) (by kernel_rfl) (by kernel_rfl) (fun w hw => lrow_at el_thU hw 1 rfl Hj.out)) ?_
  simp only [Act.put, Act.eval, List.setIfInBounds_toArray, List.set_cons_zero, List.set_cons_succ, Array.getD_eq_getD_getElem?, List.getElem?_toArray, List.getElem?_cons_zero, List.getElem?_cons_succ, Option.getD_some]
  refine wpM_free hOps rfl (fun _ _ _ h => h) (yl_move rfl _ rfl) ?_
  simp only [Act.put, Act.eval, List.setIfInBounds_toArray, List.set_cons_zero, List.set_cons_succ, Array.getD_eq_getD_getElem?, List.getElem?_toArray, List.getElem?_cons_zero, List.getElem?_cons_succ, Option.getD_some]
  refine wpM_free hOps rfl (fun _ _ _ h => h) (yl_nil rfl _ rfl _ rfl) ?_
  simp only [Act.put, Act.eval, List.setIfInBounds_toArray, List.set_cons_zero, List.set_cons_succ, Array.getD_eq_getD_getElem?, List.getElem?_toArray, List.getElem?_cons_zero, List.getElem?_cons_succ, Option.getD_some]
  refine wpM_free hOps (v := ?vOp199) rfl (fun _ _ _ h => h) (yl rfl ?yOp199) ?_
  case yOp199 => (intro w hw; go_simp; first | done | rfl)
  simp only [Act.put, Act.eval, List.setIfInBounds_toArray, List.set_cons_zero, List.set_cons_succ, Array.getD_eq_getD_getElem?, List.getElem?_toArray, List.getElem?_cons_zero, List.getElem?_cons_succ, Option.getD_some]
  refine wpM_take hOps hS rfl (fun _ _ _ h => h) (yl_get rfl _ _ rfl rfl (by kernel_rfl) (fun w hw => raw_at (At.heap hw 0 rfl) rfl)) ?_
  simp only [Act.put, Act.eval, List.setIfInBounds_toArray, List.set_cons_zero, List.set_cons_succ, Array.getD_eq_getD_getElem?, List.getElem?_toArray, List.getElem?_cons_zero, List.getElem?_cons_succ, Option.getD_some]
  refine wpM_free hOps rfl (fun _ _ _ h => h) (yl_move rfl _ rfl) ?_
  simp only [Act.put, Act.eval, List.setIfInBounds_toArray, List.set_cons_zero, List.set_cons_succ, Array.getD_eq_getD_getElem?, List.getElem?_toArray, List.getElem?_cons_zero, List.getElem?_cons_succ, Option.getD_some]
  refine wpM_free hOps (v := ?vOp206) rfl (fun _ _ _ h => h) (yl rfl ?yOp206) ?_
  case yOp206 => (intro w hw; go_simp; first | done | rfl)
  simp only [Act.put, Act.eval, List.setIfInBounds_toArray, List.set_cons_zero, List.set_cons_succ, Array.getD_eq_getD_getElem?, List.getElem?_toArray, List.getElem?_cons_zero, List.getElem?_cons_succ, Option.getD_some]
  refine wpM_take hOps hS rfl (fun _ _ _ h => h) (yl_mid rfl _ _ rfl rfl (thC .u64 (g l i)) (by kernel_rfl) (by kernel_rfl) (fun w hw => lrow_at el_thU hw 1 rfl Hi.out)) ?_
  simp only [Act.put, Act.eval, List.setIfInBounds_toArray, List.set_cons_zero, List.set_cons_succ, Array.getD_eq_getD_getElem?, List.getElem?_toArray, List.getElem?_cons_zero, List.getElem?_cons_succ, Option.getD_some]
  refine wpM_free hOps (v := ?vOp210) rfl (fun _ _ _ h => h) (yl rfl ?yOp210) ?_
  case yOp210 => (intro w hw; go_simp; first | done | rfl)
  simp only [Act.put, Act.eval, List.setIfInBounds_toArray, List.set_cons_zero, List.set_cons_succ, Array.getD_eq_getD_getElem?, List.getElem?_toArray, List.getElem?_cons_zero, List.getElem?_cons_succ, Option.getD_some]
  refine wpM_next hOps rfl rfl ?_
  intro K hK
  refine wp_lstore el_thU (z := g l j) _ _ rfl rfl rfl rfl (H.pull 1 rfl) (by omega) (fun w' H => ?_)
  refine hK _ _ (.inl (by decide)) ?_
  clear hK K
  simp only [Act.put, Act.eval, List.setIfInBounds_toArray, List.set_cons_zero, List.set_cons_succ, Array.getD_eq_getD_getElem?, List.getElem?_toArray, List.getElem?_cons_zero, List.getElem?_cons_succ, Option.getD_some]
  refine wpM_free hOps (v := ?vOp215) rfl (fun _ _ _ h => h) (yl rfl ?yOp215) ?_
  case yOp215 => (intro w hw; go_simp; first | done | rfl)
  simp only [Act.put, Act.eval, List.setIfInBounds_toArray, List.set_cons_zero, List.set_cons_succ, Array.getD_eq_getD_getElem?, List.getElem?_toArray, List.getElem?_cons_zero, List.getElem?_cons_succ, Option.getD_some]
  refine wpM_next hOps rfl rfl ?_
  intro K hK
  have HL : (l.set i (g l j)).length = l.length := List.length_set
  refine wp_lstore el_thU (z := g l i) _ _ rfl rfl rfl rfl H (by omega) (fun w' H => ?_)
  refine hK _ _ (.inl (by decide)) ?_
  clear hK K
  simp only [Act.put, Act.eval, List.setIfInBounds_toArray, List.set_cons_zero, List.set_cons_succ, Array.getD_eq_getD_getElem?, List.getElem?_toArray, List.getElem?_cons_zero, List.getElem?_cons_succ, Option.getD_some]
  refine wpM_end ?_
  clear hOps hS ops
  go_wp2
  go_end0
  refine ⟨_, rfl, ?_⟩
  have H2 : At w0 (raw p #[.int .i64 most, .slice (some ⟨gb, ob, none⟩) l.length cap, .int .u64 nx] 65 :: lrow 67 3 (thC .u64) (.slice (some ⟨gb, ob, none⟩) (sw l i j).length cap) (sw l i j) :: L) _ := H.pull 1 rfl
  rw [sw_length] at H2 ⊢
  exact H2
end Go.Proofs.Ytkbdpidcdmhhgaa
