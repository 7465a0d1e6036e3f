/-
  The heap as a whole: New, Len, Next, Push, Pop, told of the things that are in it.
-/
import Derived.Test.YtkbdpidcdmhhgaaHeapDown
import Derived.Test.YtkbdpidcdmhhgaaHeapRow
namespace Go.Proofs.Ytkbdpidcdmhhgaa
open Go.RowKit Go.Hg
set_option linter.unusedSimpArgs false
set_option linter.unusedVariables false
/-- A heap that holds the things S, in whatever order. -/
def heapI (p : Nat) (most nx : Int) (S : List Thing) : SP := fun h => ∃ a cap l, (HeapOK l ∧ l.Perm S) ∧ seps [hdI p most nx a l.length cap, lrow 60 3 (thC .i64) (.slice a l.length cap) l] h
theorem heapI_open {w0 w : World} {F : List SP} {p : Nat} {most nx : Int} {S : List Thing} (H : At w0 (heapI p most nx S :: F) w) : ∃ a cap l, HeapOK l ∧ l.Perm S ∧ At w0 (hdI p most nx a l.length cap :: lrow 60 3 (thC .i64) (.slice a l.length cap) l :: F) w := by
  obtain ⟨b, h, ⟨h1, h2, ⟨a, c, l, e, s⟩, q', r⟩, t, u⟩ := H
  exact ⟨a, c, l, e.1, e.2, b, h, seps_join [hdI p most nx a l.length c, lrow 60 3 (thC .i64) (.slice a l.length c) l] h ⟨h1, h2, s, q', r⟩, t, u⟩
theorem heapI_shut {w0 w : World} {F : List SP} {p : Nat} {most nx : Int} {S l : List Thing} {a : Option Addr} {cap : Nat} (ho : HeapOK l) (hp : l.Perm S) (H : At w0 (hdI p most nx a l.length cap :: lrow 60 3 (thC .i64) (.slice a l.length cap) l :: F) w) : At w0 (heapI p most nx S :: F) w :=
  H.imp fun h s => sep_mono (seps_split [hdI p most nx a l.length cap, lrow 60 3 (thC .i64) (.slice a l.length cap) l] h s) (fun _ s => ⟨a, cap, l, ⟨ho, hp⟩, s⟩) (fun _ s => s)
attribute [irreducible] heapI
set_option maxRecDepth 10000 in
set_option maxHeartbeats 400000 in
theorem lenI_c {w0 w : World} {F : List SP} {p : Nat} {most nx : Int} {S : List Thing} (H : At w0 (heapI p most nx S :: F) w) :
    Calls Try.prog 18 #[.pointer (some ⟨p, 0, none⟩)] w fun e w' => e = .returned (.int .i64 S.length) ∧ w = w' := by
  obtain ⟨a, cap, l, ho, hp, H2⟩ := heapI_open H
  unfold hdI at H2
  have hc : w.cell? ⟨p, 1, none⟩ = some (.slice a l.length cap) := raw_at (H2.heap 0 rfl) rfl
  have HE := Lib.hid hp.length_eq
  clear hp ho
  go_enter Try.func18, Try.ntmps18
  go_wp2
  go_ret
  exact ⟨by rw [← HE.out]; rfl, rfl⟩
set_option maxRecDepth 10000 in
set_option maxHeartbeats 400000 in
theorem nextI_none {w0 w : World} {F : List SP} {p : Nat} {most nx : Int} {S : List Thing} (H : At w0 (heapI p most nx S :: F) w) (h0 : S.length = 0) :
    Calls Try.prog 16 #[.pointer (some ⟨p, 0, none⟩)] w fun e w' => e = .returned (.tuple #[.int .u64 0, .bool false]) ∧ w = w' := by
  obtain ⟨a, cap, l, ho, hp, H2⟩ := heapI_open H
  unfold hdI at H2
  have hc : w.cell? ⟨p, 1, none⟩ = some (.slice a l.length cap) := raw_at (H2.heap 0 rfl) rfl
  have hl : l.length = 0 := hp.length_eq.trans h0
  rw [hl] at hc
  clear hp ho hl
  go_enter Try.func16, Try.ntmps16
  go_wp2
  go_ret2
  exact ⟨rfl, rfl⟩
set_option maxRecDepth 10000 in
set_option maxHeartbeats 400000 in
theorem nextI_some {w0 w : World} {F : List SP} {p : Nat} {most nx : Int} {S : List Thing} (H : At w0 (heapI p most nx S :: F) w) (h0 : 0 < S.length) :
    Calls Try.prog 16 #[.pointer (some ⟨p, 0, none⟩)] w fun e w' => ∃ m, m ∈ S ∧ (∀ u ∈ S, le m u) ∧ e = .returned (.tuple #[.int .u64 m.1, .bool true]) ∧ w = w' := by
  obtain ⟨a, cap, l, ho, hp, H2⟩ := heapI_open H
  unfold hdI at H2
  have hl : 0 < l.length := by rw [hp.length_eq]; exact h0
  have hl2 : ¬ (l.length : Int) = 0 := by omega
  obtain ⟨gb, ob, rfl⟩ := lrow_place H2 1 rfl hl
  have hc : w.cell? ⟨p, 1, none⟩ = some (.slice (some ⟨gb, ob, none⟩) l.length cap) := raw_at (H2.heap 0 rfl) rfl
  have hg := g_get hl
  have hb : w.cell? ⟨gb, ob, none⟩ = some (.int .u64 (g l 0).1) := by simpa using lrow_cell el_thI (j := 0) H2 1 rfl hg rfl
  have hm : g l 0 ∈ S ∧ ∀ u ∈ S, le (g l 0) u := ⟨hp.mem_iff.1 (List.mem_of_getElem? hg), fun u hu => by
    obtain ⟨k, hk⟩ := List.getElem?_of_mem (hp.mem_iff.2 hu)
    rw [← g_of hk]
    exact ho.least k (List.getElem?_eq_some_iff.1 hk).1⟩
  have HM := Lib.hid hm
  clear hp ho hm hg
  go_enter Try.func16, Try.ntmps16
  go_wp2
  go_ret2
  exact ⟨_, HM.out.1, HM.out.2, rfl, rfl⟩
set_option maxRecDepth 10000 in
set_option maxHeartbeats 400000 in
theorem newI_c {w0 w : World} {F : List SP} (H : At w0 F w) (z : Int) :
    Calls Try.prog 10 #[.int .i64 z] w fun e w' => ∃ p, e = .returned (.pointer (some ⟨p, 0, none⟩)) ∧ At w0 (heapI p (max z 1) 0 [] :: F) w' := by
  have hempty : HeapOK [] := fun j _ h => absurd h (by simp)
  by_cases hz : z < 1
  · rw [show max z 1 = 1 by omega]
    go_enter Try.func10, Try.ntmps10
    go_wp2_with ((with_reducible refine wpList_op rfl ?_); intro _ hK; refine wp_box_sl (v := .agg #[.int .i64 1, .slice none 0 0, .int .u64 0]) 58 _ rfl rfl H (fun p w' (H : At w0 (raw p #[.int .i64 1, .slice none 0 0, .int .u64 0] 58 :: F) w') _ => hK _ _ ?_))
    go_ret
    exact ⟨p, rfl, heapI_shut hempty (List.Perm.refl _) (a := none) (cap := 0) ((lrow_nil H (thC .i64) 60 3).pull 1 rfl)⟩
  · rw [show max z 1 = z by omega]
    go_enter Try.func10, Try.ntmps10
    go_wp2_with ((with_reducible refine wpList_op rfl ?_); intro _ hK; refine wp_box_sl (v := .agg #[.int .i64 z, .slice none 0 0, .int .u64 0]) 58 _ rfl rfl H (fun p w' (H : At w0 (raw p #[.int .i64 z, .slice none 0 0, .int .u64 0] 58 :: F) w') _ => hK _ _ ?_))
    go_ret
    exact ⟨p, rfl, heapI_shut hempty (List.Perm.refl _) (a := none) (cap := 0) ((lrow_nil H (thC .i64) 60 3).pull 1 rfl)⟩
set_option maxRecDepth 10000 in
set_option maxHeartbeats 1000000 in
theorem pushI_full {w0 w : World} {F : List SP} {p : Nat} {most nx : Int} {S : List Thing} (H : At w0 (heapI p most nx S :: F) w) (tick x : Int) (h0 : most ≤ (S.length : Int)) :
    Calls Try.prog 12 #[.pointer (some ⟨p, 0, none⟩), .int .u64 tick, .int .i64 x] w fun e w' => e = .returned (.tuple #[.int .u64 0, .int .i64 8]) ∧ At w0 (heapI p most nx S :: F) w' := by
  obtain ⟨a, cap, l, ho, hp, H2⟩ := heapI_open H
  unfold hdI at H2
  have hl : most ≤ (l.length : Int) := by rw [hp.length_eq]; exact h0
  have HO := Lib.hid ho
  have HP := Lib.hid hp
  clear hp ho H
  go_enter Try.func12, Try.ntmps12
  go_wp2_with fail
  refine wpL_begin 10 (At w0 (raw p #[.int .i64 most, .slice a l.length cap, .int .u64 nx] 58 :: lrow 60 3 (thC .i64) (.slice a l.length cap) l :: F)) [(0, true), (1, true), (2, true), (3, true), (4, true), (5, true), (6, true), (7, true), (8, true), (9, true)] rfl (by kernel_rfl) (by kernel_rfl) ((H2.drew)) ?_
  intro ops hOps hS
  replace H2 := H2.drew
  refine wpL_take hOps hS rfl (fun _ _ _ h => h) (yl_move rfl _ rfl) ?_
  simp only [Act.put, Act.eval, List.setIfInBounds_toArray, List.set_cons_zero, List.set_cons_succ, Array.getD_eq_getD_getElem?, List.getElem?_toArray, List.getElem?_cons_zero, List.getElem?_cons_succ, Option.getD_some]
  refine wpL_take hOps hS rfl (fun _ _ _ h => h) (yl_nil rfl _ rfl _ rfl) ?_
  simp only [Act.put, Act.eval, List.setIfInBounds_toArray, List.set_cons_zero, List.set_cons_succ, Array.getD_eq_getD_getElem?, List.getElem?_toArray, List.getElem?_cons_zero, List.getElem?_cons_succ, Option.getD_some]
  refine wpL_take hOps hS (v := ?vOp9) rfl (fun _ _ _ h => h) (yl rfl ?yOp9) ?_
  case yOp9 => (intro w hw; go_simp; first | done | rfl)
  simp only [Act.put, Act.eval, List.setIfInBounds_toArray, List.set_cons_zero, List.set_cons_succ, Array.getD_eq_getD_getElem?, List.getElem?_toArray, List.getElem?_cons_zero, List.getElem?_cons_succ, Option.getD_some]
  refine wpL_take hOps hS rfl (fun _ _ _ h => h) (yl_get rfl _ _ rfl rfl (by kernel_rfl) (fun w hw => raw_at (At.heap hw 0 rfl) rfl)) ?_
  simp only [Act.put, Act.eval, List.setIfInBounds_toArray, List.set_cons_zero, List.set_cons_succ, Array.getD_eq_getD_getElem?, List.getElem?_toArray, List.getElem?_cons_zero, List.getElem?_cons_succ, Option.getD_some]
  refine wpL_take hOps hS (v := ?vOp13) rfl (fun _ _ _ h => h) (yl rfl ?yOp13) ?_
  case yOp13 => (intro w hw; go_simp; first | done | rfl)
  simp only [Act.put, Act.eval, List.setIfInBounds_toArray, List.set_cons_zero, List.set_cons_succ, Array.getD_eq_getD_getElem?, List.getElem?_toArray, List.getElem?_cons_zero, List.getElem?_cons_succ, Option.getD_some]
  refine wpL_take hOps hS rfl (fun _ _ _ h => h) (yl_move rfl _ rfl) ?_
  simp only [Act.put, Act.eval, List.setIfInBounds_toArray, List.set_cons_zero, List.set_cons_succ, Array.getD_eq_getD_getElem?, List.getElem?_toArray, List.getElem?_cons_zero, List.getElem?_cons_succ, Option.getD_some]
  refine wpL_take hOps hS rfl (fun _ _ _ h => h) (yl_nil rfl _ rfl _ rfl) ?_
  simp only [Act.put, Act.eval, List.setIfInBounds_toArray, List.set_cons_zero, List.set_cons_succ, Array.getD_eq_getD_getElem?, List.getElem?_toArray, List.getElem?_cons_zero, List.getElem?_cons_succ, Option.getD_some]
  refine wpL_take hOps hS (v := ?vOp21) rfl (fun _ _ _ h => h) (yl rfl ?yOp21) ?_
  case yOp21 => (intro w hw; go_simp; first | done | rfl)
  simp only [Act.put, Act.eval, List.setIfInBounds_toArray, List.set_cons_zero, List.set_cons_succ, Array.getD_eq_getD_getElem?, List.getElem?_toArray, List.getElem?_cons_zero, List.getElem?_cons_succ, Option.getD_some]
  refine wpL_take hOps hS rfl (fun _ _ _ h => h) (yl_get rfl _ _ rfl rfl (by kernel_rfl) (fun w hw => raw_at (At.heap hw 0 rfl) rfl)) ?_
  simp only [Act.put, Act.eval, List.setIfInBounds_toArray, List.set_cons_zero, List.set_cons_succ, Array.getD_eq_getD_getElem?, List.getElem?_toArray, List.getElem?_cons_zero, List.getElem?_cons_succ, Option.getD_some]
  refine wpL_take hOps hS (v := ?vOp25) rfl (fun _ _ _ h => h) (yl rfl ?yOp25) ?_
  case yOp25 => (intro w hw; go_simp; first | done | rfl)
  simp only [Act.put, Act.eval, List.setIfInBounds_toArray, List.set_cons_zero, List.set_cons_succ, Array.getD_eq_getD_getElem?, List.getElem?_toArray, List.getElem?_cons_zero, List.getElem?_cons_succ, Option.getD_some]
  refine wpL_end ?_
  clear hOps hS ops
  go_wp2
  go_ret2
  exact ⟨rfl, heapI_shut HO.out HP.out H2⟩
set_option maxRecDepth 10000 in
set_option maxHeartbeats 2000000 in
theorem pushI_room {w0 w : World} {F : List SP} {p : Nat} {most nx : Int} {S : List Thing} (H : At w0 (heapI p most nx S :: F) w) (tick x : Int) (h0 : (S.length : Int) < most) (hn0 : 0 ≤ nx) (hn1 : nx + 1 < 18446744073709551616) (hS : S.length ≤ 999999) :
    Calls Try.prog 12 #[.pointer (some ⟨p, 0, none⟩), .int .u64 tick, .int .i64 x] w fun e w' => e = .returned (.tuple #[.int .u64 nx, .int .i64 0]) ∧ At w0 (heapI p most (nx + 1) (S ++ [(tick, nx, x)]) :: F) w' := by
  obtain ⟨a, cap, l, ho, hp, H2⟩ := heapI_open H
  unfold hdI at H2
  have hl : (l.length : Int) < most := by rw [hp.length_eq]; exact h0
  have hl6 : (l.length : Int) ≤ 999999 := by have := hp.length_eq; omega
  have hl7 : ¬ most ≤ (l.length : Int) := by omega
  have HO := Lib.hid ho
  have HP := Lib.hid hp
  clear hp ho H
  go_enter Try.func12, Try.ntmps12
  go_wp2_with fail
  refine wpL_begin 10 (At w0 (raw p #[.int .i64 most, .slice a l.length cap, .int .u64 nx] 58 :: lrow 60 3 (thC .i64) (.slice a l.length cap) l :: F)) [(0, true), (1, true), (2, true), (3, true), (4, true), (5, true), (6, true), (7, true), (8, true), (9, true)] rfl (by kernel_rfl) (by kernel_rfl) ((H2.drew)) ?_
  intro ops hOps hS
  have H := H2.drew
  clear H2
  refine wpL_take hOps hS rfl (fun _ _ _ h => h) (yl_move rfl _ rfl) ?_
  simp only [Act.put, Act.eval, List.setIfInBounds_toArray, List.set_cons_zero, List.set_cons_succ, Array.getD_eq_getD_getElem?, List.getElem?_toArray, List.getElem?_cons_zero, List.getElem?_cons_succ, Option.getD_some]
  refine wpL_take hOps hS rfl (fun _ _ _ h => h) (yl_nil rfl _ rfl _ rfl) ?_
  simp only [Act.put, Act.eval, List.setIfInBounds_toArray, List.set_cons_zero, List.set_cons_succ, Array.getD_eq_getD_getElem?, List.getElem?_toArray, List.getElem?_cons_zero, List.getElem?_cons_succ, Option.getD_some]
  refine wpL_take hOps hS (v := ?vOp35) rfl (fun _ _ _ h => h) (yl rfl ?yOp35) ?_
  case yOp35 => (intro w hw; go_simp; first | done | rfl)
  simp only [Act.put, Act.eval, List.setIfInBounds_toArray, List.set_cons_zero, List.set_cons_succ, Array.getD_eq_getD_getElem?, List.getElem?_toArray, List.getElem?_cons_zero, List.getElem?_cons_succ, Option.getD_some]
  refine wpL_take hOps hS rfl (fun _ _ _ h => h) (yl_get rfl _ _ rfl rfl (by kernel_rfl) (fun w hw => raw_at (At.heap hw 0 rfl) rfl)) ?_
  simp only [Act.put, Act.eval, List.setIfInBounds_toArray, List.set_cons_zero, List.set_cons_succ, Array.getD_eq_getD_getElem?, List.getElem?_toArray, List.getElem?_cons_zero, List.getElem?_cons_succ, Option.getD_some]
  refine wpL_take hOps hS (v := ?vOp39) rfl (fun _ _ _ h => h) (yl rfl ?yOp39) ?_
  case yOp39 => (intro w hw; go_simp; first | done | rfl)
  simp only [Act.put, Act.eval, List.setIfInBounds_toArray, List.set_cons_zero, List.set_cons_succ, Array.getD_eq_getD_getElem?, List.getElem?_toArray, List.getElem?_cons_zero, List.getElem?_cons_succ, Option.getD_some]
  refine wpL_take hOps hS rfl (fun _ _ _ h => h) (yl_move rfl _ rfl) ?_
  simp only [Act.put, Act.eval, List.setIfInBounds_toArray, List.set_cons_zero, List.set_cons_succ, Array.getD_eq_getD_getElem?, List.getElem?_toArray, List.getElem?_cons_zero, List.getElem?_cons_succ, Option.getD_some]
  refine wpL_take hOps hS rfl (fun _ _ _ h => h) (yl_nil rfl _ rfl _ rfl) ?_
  simp only [Act.put, Act.eval, List.setIfInBounds_toArray, List.set_cons_zero, List.set_cons_succ, Array.getD_eq_getD_getElem?, List.getElem?_toArray, List.getElem?_cons_zero, List.getElem?_cons_succ, Option.getD_some]
  refine wpL_take hOps hS (v := ?vOp47) rfl (fun _ _ _ h => h) (yl rfl ?yOp47) ?_
  case yOp47 => (intro w hw; go_simp; first | done | rfl)
  simp only [Act.put, Act.eval, List.setIfInBounds_toArray, List.set_cons_zero, List.set_cons_succ, Array.getD_eq_getD_getElem?, List.getElem?_toArray, List.getElem?_cons_zero, List.getElem?_cons_succ, Option.getD_some]
  refine wpL_take hOps hS rfl (fun _ _ _ h => h) (yl_get rfl _ _ rfl rfl (by kernel_rfl) (fun w hw => raw_at (At.heap hw 0 rfl) rfl)) ?_
  simp only [Act.put, Act.eval, List.setIfInBounds_toArray, List.set_cons_zero, List.set_cons_succ, Array.getD_eq_getD_getElem?, List.getElem?_toArray, List.getElem?_cons_zero, List.getElem?_cons_succ, Option.getD_some]
  refine wpL_take hOps hS (v := ?vOp51) rfl (fun _ _ _ h => h) (yl rfl ?yOp51) ?_
  case yOp51 => (intro w hw; go_simp; first | done | rfl)
  simp only [Act.put, Act.eval, List.setIfInBounds_toArray, List.set_cons_zero, List.set_cons_succ, Array.getD_eq_getD_getElem?, List.getElem?_toArray, List.getElem?_cons_zero, List.getElem?_cons_succ, Option.getD_some]
  refine wpL_end ?_
  clear hOps hS ops
  go_wp2_with ((with_reducible refine wpList_op rfl ?_); intro _ hK; first | (refine wp_get _ _ rfl rfl (by kernel_rfl) (raw_at (H.heap 0 rfl) rfl) (hK _ _ ?_)) | (refine wp_get _ _ rfl rfl (by kernel_rfl) (raw_at (H.heap 2 rfl) rfl) (hK _ _ ?_)) | (refine wp_lbuild el_thI (y := (tick, nx, x)) _ under_thingsI _ rfl rfl rfl (by omega) (by omega) H (fun C w' H => hK _ _ ?_)) | (refine wp_lapp_one el_thI (y := (tick, nx, x)) _ under_thingsI _ _ rfl rfl (H.pull 2 rfl) rfl 0 rfl rfl (by simp only [maxLen]; omega) (by omega) (fun bb cc w' H => hK _ _ ?_)) | (refine wp_store_sl _ _ _ rfl rfl rfl (by kernel_rfl) rfl 0 H rfl (by simp) fun w' H => hK _ _ ?_) | (refine wp_store_sl _ _ _ rfl rfl rfl (by kernel_rfl) rfl 2 H rfl (by simp) fun w' H => hK _ _ ?_))
  have H2 : At w0 (hdI p most (nx + 1) bb (l.length + 1) cc :: lrow 60 3 (thC .i64) (.slice bb (l ++ [(tick, nx, x)]).length cc) (l ++ [(tick, nx, x)]) :: raw C (thC .i64 (tick, nx, x)).toArray 60 :: F) _ := H.pull 2 rfl
  rw [show l.length + 1 = (l ++ [(tick, nx, x)]).length from by simp] at H2
  refine (upI_c H2 l.length (by simp) (by simp; omega) (HO.out.push _)).mono ?_; rintro e w' ⟨v, l2, rfl, hp2, ho2, H⟩
  have HO2 := Lib.hid ho2
  have HP2 := Lib.hid hp2
  clear ho2 hp2
  go_wp2
  go_ret2
  exact ⟨rfl, heapI_shut HO2.out (HP2.out.trans (HP.out.append_right _)) (H.maskR [true, true, false])⟩
set_option maxRecDepth 10000 in
set_option maxHeartbeats 400000 in
theorem nextI_open {w0 w : World} {F : List SP} {p : Nat} {most nx : Int} {a : Option Addr} {cap : Nat} {l : List Thing} (H2 : At w0 (hdI p most nx a l.length cap :: lrow 60 3 (thC .i64) (.slice a l.length cap) l :: F) w) (hl : 0 < l.length) :
    Calls Try.prog 16 #[.pointer (some ⟨p, 0, none⟩)] w fun e w' => e = .returned (.tuple #[.int .u64 (g l 0).1, .bool true]) ∧ w = w' := by
  unfold hdI at H2
  have hl2 : ¬ (l.length : Int) = 0 := by omega
  obtain ⟨gb, ob, rfl⟩ := lrow_place H2 1 rfl hl
  have hc : w.cell? ⟨p, 1, none⟩ = some (.slice (some ⟨gb, ob, none⟩) l.length cap) := raw_at (H2.heap 0 rfl) rfl
  have hg := g_get hl
  have hb : w.cell? ⟨gb, ob, none⟩ = some (.int .u64 (g l 0).1) := by simpa using lrow_cell el_thI (j := 0) H2 1 rfl hg rfl
  clear hg
  go_enter Try.func16, Try.ntmps16
  go_wp2
  go_ret2
  exact ⟨rfl, rfl⟩
set_option maxRecDepth 10000 in
set_option maxHeartbeats 400000 in
theorem popI_none {w0 w : World} {F : List SP} {p : Nat} {most nx : Int} {S : List Thing} (H : At w0 (heapI p most nx S :: F) w) (now : Int) (h0 : S.length = 0) :
    Calls Try.prog 14 #[.pointer (some ⟨p, 0, none⟩), .int .u64 now] w fun e w' => e = .returned (.tuple #[.int .i64 0, .int .u64 0, .bool false]) ∧ w = w' := by
  go_enter Try.func14, Try.ntmps14
  go_wp2_with fail
  refine (nextI_none H h0).mono ?_; rintro e w' ⟨rfl, rfl⟩
  go_wp2
  go_ret3
  exact ⟨rfl, rfl⟩
set_option maxRecDepth 10000 in
set_option maxHeartbeats 400000 in
theorem popI_early {w0 w : World} {F : List SP} {p : Nat} {most nx : Int} {a : Option Addr} {cap : Nat} {l : List Thing} (H2 : At w0 (hdI p most nx a l.length cap :: lrow 60 3 (thC .i64) (.slice a l.length cap) l :: F) w) (now : Int) (hl : 0 < l.length) (hn : now < (g l 0).1) :
    Calls Try.prog 14 #[.pointer (some ⟨p, 0, none⟩), .int .u64 now] w fun e w' => e = .returned (.tuple #[.int .i64 0, .int .u64 0, .bool false]) ∧ w = w' := by
  go_enter Try.func14, Try.ntmps14
  go_wp2_with fail
  refine (nextI_open H2 hl).mono ?_; rintro e w' ⟨rfl, rfl⟩
  go_wp2
  go_ret3
  exact ⟨rfl, rfl⟩
theorem zero_thI (w : World) : (zeroValue 60).run Try.prog w = .ok (.agg #[.int .u64 0, .int .u64 0, .int .i64 0]) w := by kernel_rfl
theorem zcells_thI : (Builtin.zeroCells (Value.agg #[.int .u64 0, .int .u64 0, .int .i64 0]).cells 1).toList = thC .i64 (0, 0, 0) := by simp [Builtin.zeroCells, thC, Value.cells, List.range_succ]
set_option maxRecDepth 10000 in
set_option maxHeartbeats 2000000 in
theorem popI_some {w0 w : World} {F : List SP} {p : Nat} {most nx : Int} {a : Option Addr} {cap : Nat} {l : List Thing} (H : At w0 (hdI p most nx a l.length cap :: lrow 60 3 (thC .i64) (.slice a l.length cap) l :: F) w) (now : Int) (hl : 0 < l.length) (hn : ¬ now < (g l 0).1) (ho : HeapOK l) (h6 : l.length ≤ 1000000) :
    Calls Try.prog 14 #[.pointer (some ⟨p, 0, none⟩), .int .u64 now] w fun e w' => ∃ l', e = .returned (.tuple #[.int .i64 (g l 0).2.2, .int .u64 (g l 0).1, .bool true]) ∧ (HeapOK l' ∧ (g l 0 :: l').Perm l) ∧ At w0 (hdI p most nx a l'.length cap :: lrow 60 3 (thC .i64) (.slice a l'.length cap) l' :: F) w' := by
  obtain ⟨gb, ob, rfl⟩ := lrow_place H 1 rfl hl
  obtain ⟨n, hln⟩ : ∃ n, l.length = n + 1 := ⟨l.length - 1, by omega⟩
  have hcap : n + 1 ≤ cap := by
    have h := H.pull 1 rfl
    unfold lrow at h
    obtain ⟨_, _, h, _⟩ := At.rows_blk h
    omega
  have hP := Lib.hid (ho.pop hln)
  have hb : w.cell? ⟨gb, ob + 2, none⟩ = some (.int .i64 (g l 0).2.2) := by simpa using lrow_cell el_thI (j := 2) H 1 rfl (g_get hl) rfl
  have hc : w.cell? ⟨p, 1, none⟩ = some (.slice (some ⟨gb, ob, none⟩) (n + 1) cap) := by
    have := H
    unfold hdI at this
    rw [hln] at this
    exact raw_at (this.heap 0 rfl) rfl
  have HLN := Lib.hid hln
  have h6n : (n : Int) ≤ 1000000 := by omega
  clear ho hln h6
  go_enter Try.func14, Try.ntmps14
  go_wp2_with fail
  refine (nextI_open H hl).mono ?_; rintro e w' ⟨rfl, rfl⟩
  go_wp2_with fail
  refine (swapI_c H 0 n (by omega) (by have := HLN.out; omega)).mono ?_; rintro e w' ⟨v, rfl, H⟩
  clear hb hc
  have HS := Lib.hid (sw_length l 0 n)
  obtain ⟨l2, hl2⟩ : ∃ l2, l2 = sw l 0 n := ⟨_, rfl⟩
  rw [← hl2] at H
  have HL2 := Lib.hid hl2
  have hn2 : l2.length = n + 1 := by rw [hl2, HS.out, HLN.out]
  have HN2 := Lib.hid hn2
  clear hl2
  replace H : At w0 (raw p #[.int .i64 most, .slice (some ⟨gb, ob, none⟩) (n + 1) cap, .int .u64 nx] 58 :: lrow 60 3 (thC .i64) (.slice (some ⟨gb, ob, none⟩) l2.length cap) l2 :: F) w' := by
    unfold hdI at H
    rw [← hn2]; exact H
  clear hn2
  go_wp2_with ((with_reducible refine wpList_op rfl ?_); intro _ hK; first | (refine wp_get _ _ rfl rfl (by kernel_rfl) (raw_at (H.heap 0 rfl) rfl) (hK _ _ ?_)) | (refine wp_get _ _ rfl rfl (by kernel_rfl) (raw_at (H.heap 1 rfl) rfl) (hK _ _ ?_)) | (refine wp_lclear_one el_thI (z := (0, 0, 0)) (i := n) _ under_thingsI _ rfl rfl zero_thI zcells_thI (H.pull 1 rfl) (by have := HN2.out; omega) (fun w' H => hK _ _ ?_)) | (refine wp_store_sl _ _ _ rfl rfl rfl (by kernel_rfl) rfl 1 H rfl (by simp) fun w' H => hK _ _ ?_))
  have e1 : (l2.set n (0, 0, 0)).take n = l2.take n := List.take_set_of_le (Nat.le_refl _)
  have e2 : (l2.take n).length = n := by have := HN2.out; rw [List.length_take]; omega
  have H2 := At.lrow_take el_thI (ys := l2.set n (0, 0, 0)) H (q := n) (by have := HN2.out; rw [List.length_set]; omega)
  rw [e1] at H2
  have H3 : At w0 (hdI p most nx (some ⟨gb, ob, none⟩) (l2.take n).length cap :: lrow 60 3 (thC .i64) (.slice (some ⟨gb, ob, none⟩) (l2.take n).length cap) (l2.take n) :: F) w' := by
    unfold hdI
    rw [e2] at H2 ⊢
    exact H2.pull 1 rfl
  have hd := hP.out.1
  rw [← HL2.out] at hd
  refine (downI_c H3 (by omega) hd).mono ?_; rintro e w' ⟨v2, l3, rfl, hp3, ho3, H⟩
  have HO3 := Lib.hid ho3
  have HP3 := Lib.hid hp3
  clear ho3 hp3 hd e1 e2 H2 H3
  go_wp2
  go_ret3
  have hq := hP.out.2
  rw [← HL2.out] at hq
  exact ⟨l3, rfl, ⟨HO3.out, (HP3.out.cons _).trans hq⟩, H⟩
/-- Pop, told of the row. -/
theorem popI_c {w0 w : World} {F : List SP} {p : Nat} {most nx : Int} {L : List Thing} (H : At w0 (heapI p most nx L :: F) w) (hR : RowOK L nx) (h6 : L.length ≤ 1000000) (now : Int) :
    Calls Try.prog 14 #[.pointer (some ⟨p, 0, none⟩), .int .u64 now] w fun e w' => e = .returned (.tuple #[.int .i64 (popX L now), .int .u64 (popT L now), .bool (popB L now)]) ∧ At w0 (heapI p most nx (popR L now) :: F) w' := by
  by_cases h0 : L.length = 0
  · have hb : popB L now = false := decide_eq_false (by omega)
    refine (popI_none H now h0).mono fun e w' h => ?_
    unfold popX popT popR
    rw [hb]
    exact ⟨h.1, h.2 ▸ H⟩
  · obtain ⟨a, cap, l, ho, hp, H2⟩ := heapI_open H
    have hl : 0 < l.length := by have := hp.length_eq; omega
    have hm : g l 0 = g L (fk L) := hR.first (hp.mem_iff.1 (List.mem_of_getElem? (g_get hl))) fun u hu => by
      obtain ⟨k, hk⟩ := List.getElem?_of_mem (hp.mem_iff.2 hu)
      rw [← g_of hk]
      exact ho.least k (List.getElem?_eq_some_iff.1 hk).1
    by_cases hn : now < (g l 0).1
    · have hb : popB L now = false := decide_eq_false (by rw [← hm]; omega)
      refine (popI_early H2 now hl hn).mono fun e w' h => ?_
      unfold popX popT popR
      rw [hb]
      exact ⟨h.1, h.2 ▸ H⟩
    · have hb : popB L now = true := decide_eq_true (by rw [← hm]; omega)
      refine (popI_some H2 now hl hn ho (by have := hp.length_eq; omega)).mono fun e w' h => ?_
      obtain ⟨l', h1, ⟨h2, h3⟩, h4⟩ := h
      unfold popX popT popR
      rw [hb, ← hm]
      exact ⟨h1, heapI_shut h2 (erase_perm (fk_lt (by omega)) (hm ▸ h3.trans hp)) h4⟩
/-- Push, told of the row. -/
theorem pushI_c {w0 w : World} {F : List SP} {p : Nat} {most nx : Int} {L : List Thing} (H : At w0 (heapI p most nx L :: F) w) (hn0 : 0 ≤ nx) (hn1 : nx + 1 < 18446744073709551616) (h6 : L.length ≤ 999999) (tick x : Int) :
    Calls Try.prog 12 #[.pointer (some ⟨p, 0, none⟩), .int .u64 tick, .int .i64 x] w fun e w' => e = .returned (.tuple #[.int .u64 (pushN most nx L), .int .i64 (pushE most L)]) ∧ At w0 (heapI p most (pushX most nx L) (pushL most nx L tick x) :: F) w' := by
  unfold pushN pushE pushX pushL
  by_cases h : most ≤ (L.length : Int)
  · simp only [if_pos h]
    exact pushI_full H tick x h
  · simp only [if_neg h]
    exact pushI_room H tick x (by omega) hn0 hn1 h6
/-- Next, told of the row. -/
theorem nextI_c {w0 w : World} {F : List SP} {p : Nat} {most nx : Int} {L : List Thing} (H : At w0 (heapI p most nx L :: F) w) (hR : RowOK L nx) :
    Calls Try.prog 16 #[.pointer (some ⟨p, 0, none⟩)] w fun e w' => e = .returned (.tuple #[.int .u64 (nextT L), .bool (decide (0 < L.length))]) ∧ w = w' := by
  unfold nextT
  by_cases h0 : 0 < L.length
  · rw [if_pos h0, decide_eq_true h0]
    refine (nextI_some H h0).mono fun e w' h => ?_
    obtain ⟨m, h1, h2, h3, h4⟩ := h
    rw [← hR.first h1 h2]
    exact ⟨h3, h4⟩
  · rw [if_neg h0, decide_eq_false h0]
    exact nextI_none H (by omega)
/-- A heap that holds the things S, in whatever order. -/
def heapU (p : Nat) (most nx : Int) (S : List Thing) : SP := fun h => ∃ a cap l, (HeapOK l ∧ l.Perm S) ∧ seps [hdU p most nx a l.length cap, lrow 67 3 (thC .u64) (.slice a l.length cap) l] h
theorem heapU_open {w0 w : World} {F : List SP} {p : Nat} {most nx : Int} {S : List Thing} (H : At w0 (heapU p most nx S :: F) w) : ∃ a cap l, HeapOK l ∧ l.Perm S ∧ At w0 (hdU p most nx a l.length cap :: lrow 67 3 (thC .u64) (.slice a l.length cap) l :: F) w := by
  obtain ⟨b, h, ⟨h1, h2, ⟨a, c, l, e, s⟩, q', r⟩, t, u⟩ := H
  exact ⟨a, c, l, e.1, e.2, b, h, seps_join [hdU p most nx a l.length c, lrow 67 3 (thC .u64) (.slice a l.length c) l] h ⟨h1, h2, s, q', r⟩, t, u⟩
theorem heapU_shut {w0 w : World} {F : List SP} {p : Nat} {most nx : Int} {S l : List Thing} {a : Option Addr} {cap : Nat} (ho : HeapOK l) (hp : l.Perm S) (H : At w0 (hdU p most nx a l.length cap :: lrow 67 3 (thC .u64) (.slice a l.length cap) l :: F) w) : At w0 (heapU p most nx S :: F) w :=
  H.imp fun h s => sep_mono (seps_split [hdU p most nx a l.length cap, lrow 67 3 (thC .u64) (.slice a l.length cap) l] h s) (fun _ s => ⟨a, cap, l, ⟨ho, hp⟩, s⟩) (fun _ s => s)
attribute [irreducible] heapU
set_option maxRecDepth 10000 in
set_option maxHeartbeats 400000 in
theorem lenU_c {w0 w : World} {F : List SP} {p : Nat} {most nx : Int} {S : List Thing} (H : At w0 (heapU p most nx S :: F) w) :
    Calls Try.prog 21 #[.pointer (some ⟨p, 0, none⟩)] w fun e w' => e = .returned (.int .i64 S.length) ∧ w = w' := by
  obtain ⟨a, cap, l, ho, hp, H2⟩ := heapU_open H
  unfold hdU at H2
  have hc : w.cell? ⟨p, 1, none⟩ = some (.slice a l.length cap) := raw_at (H2.heap 0 rfl) rfl
  have HE := Lib.hid hp.length_eq
  clear hp ho
  go_enter Try.func21, Try.ntmps21
  go_wp2
  go_ret
  exact ⟨by rw [← HE.out]; rfl, rfl⟩
set_option maxRecDepth 10000 in
set_option maxHeartbeats 400000 in
theorem nextU_none {w0 w : World} {F : List SP} {p : Nat} {most nx : Int} {S : List Thing} (H : At w0 (heapU p most nx S :: F) w) (h0 : S.length = 0) :
    Calls Try.prog 27 #[.pointer (some ⟨p, 0, none⟩)] w fun e w' => e = .returned (.tuple #[.int .u64 0, .bool false]) ∧ w = w' := by
  obtain ⟨a, cap, l, ho, hp, H2⟩ := heapU_open H
  unfold hdU at H2
  have hc : w.cell? ⟨p, 1, none⟩ = some (.slice a l.length cap) := raw_at (H2.heap 0 rfl) rfl
  have hl : l.length = 0 := hp.length_eq.trans h0
  rw [hl] at hc
  clear hp ho hl
  go_enter Try.func27, Try.ntmps27
  go_wp2
  go_ret2
  exact ⟨rfl, rfl⟩
set_option maxRecDepth 10000 in
set_option maxHeartbeats 400000 in
theorem nextU_some {w0 w : World} {F : List SP} {p : Nat} {most nx : Int} {S : List Thing} (H : At w0 (heapU p most nx S :: F) w) (h0 : 0 < S.length) :
    Calls Try.prog 27 #[.pointer (some ⟨p, 0, none⟩)] w fun e w' => ∃ m, m ∈ S ∧ (∀ u ∈ S, le m u) ∧ e = .returned (.tuple #[.int .u64 m.1, .bool true]) ∧ w = w' := by
  obtain ⟨a, cap, l, ho, hp, H2⟩ := heapU_open H
  unfold hdU at H2
  have hl : 0 < l.length := by rw [hp.length_eq]; exact h0
  have hl2 : ¬ (l.length : Int) = 0 := by omega
  obtain ⟨gb, ob, rfl⟩ := lrow_place H2 1 rfl hl
  have hc : w.cell? ⟨p, 1, none⟩ = some (.slice (some ⟨gb, ob, none⟩) l.length cap) := raw_at (H2.heap 0 rfl) rfl
  have hg := g_get hl
  have hb : w.cell? ⟨gb, ob, none⟩ = some (.int .u64 (g l 0).1) := by simpa using lrow_cell el_thU (j := 0) H2 1 rfl hg rfl
  have hm : g l 0 ∈ S ∧ ∀ u ∈ S, le (g l 0) u := ⟨hp.mem_iff.1 (List.mem_of_getElem? hg), fun u hu => by
    obtain ⟨k, hk⟩ := List.getElem?_of_mem (hp.mem_iff.2 hu)
    rw [← g_of hk]
    exact ho.least k (List.getElem?_eq_some_iff.1 hk).1⟩
  have HM := Lib.hid hm
  clear hp ho hm hg
  go_enter Try.func27, Try.ntmps27
  go_wp2
  go_ret2
  exact ⟨_, HM.out.1, HM.out.2, rfl, rfl⟩
set_option maxRecDepth 10000 in
set_option maxHeartbeats 400000 in
theorem newU_c {w0 w : World} {F : List SP} (H : At w0 F w) (z : Int) :
    Calls Try.prog 19 #[.int .i64 z] w fun e w' => ∃ p, e = .returned (.pointer (some ⟨p, 0, none⟩)) ∧ At w0 (heapU p (max z 1) 0 [] :: F) w' := by
  have hempty : HeapOK [] := fun j _ h => absurd h (by simp)
  by_cases hz : z < 1
  · rw [show max z 1 = 1 by omega]
    go_enter Try.func19, Try.ntmps19
    go_wp2_with ((with_reducible refine wpList_op rfl ?_); intro _ hK; refine wp_box_sl (v := .agg #[.int .i64 1, .slice none 0 0, .int .u64 0]) 65 _ rfl rfl H (fun p w' (H : At w0 (raw p #[.int .i64 1, .slice none 0 0, .int .u64 0] 65 :: F) w') _ => hK _ _ ?_))
    go_ret
    exact ⟨p, rfl, heapU_shut hempty (List.Perm.refl _) (a := none) (cap := 0) ((lrow_nil H (thC .u64) 67 3).pull 1 rfl)⟩
  · rw [show max z 1 = z by omega]
    go_enter Try.func19, Try.ntmps19
    go_wp2_with ((with_reducible refine wpList_op rfl ?_); intro _ hK; refine wp_box_sl (v := .agg #[.int .i64 z, .slice none 0 0, .int .u64 0]) 65 _ rfl rfl H (fun p w' (H : At w0 (raw p #[.int .i64 z, .slice none 0 0, .int .u64 0] 65 :: F) w') _ => hK _ _ ?_))
    go_ret
    exact ⟨p, rfl, heapU_shut hempty (List.Perm.refl _) (a := none) (cap := 0) ((lrow_nil H (thC .u64) 67 3).pull 1 rfl)⟩
set_option maxRecDepth 10000 in
set_option maxHeartbeats 1000000 in
theorem pushU_full {w0 w : World} {F : List SP} {p : Nat} {most nx : Int} {S : List Thing} (H : At w0 (heapU p most nx S :: F) w) (tick x : Int) (h0 : most ≤ (S.length : Int)) :
    Calls Try.prog 20 #[.pointer (some ⟨p, 0, none⟩), .int .u64 tick, .int .u64 x] w fun e w' => e = .returned (.tuple #[.int .u64 0, .int .i64 8]) ∧ At w0 (heapU p most nx S :: F) w' := by
  obtain ⟨a, cap, l, ho, hp, H2⟩ := heapU_open H
  unfold hdU at H2
  have hl : most ≤ (l.length : Int) := by rw [hp.length_eq]; exact h0
  have HO := Lib.hid ho
  have HP := Lib.hid hp
  clear hp ho H
  go_enter Try.func20, Try.ntmps20
  go_wp2_with fail
  refine wpL_begin 10 (At w0 (raw p #[.int .i64 most, .slice a l.length cap, .int .u64 nx] 65 :: lrow 67 3 (thC .u64) (.slice a l.length cap) l :: F)) [(0, true), (1, true), (2, true), (3, true), (4, true), (5, true), (6, true), (7, true), (8, true), (9, true)] rfl (by kernel_rfl) (by kernel_rfl) ((H2.drew)) ?_
  intro ops hOps hS
  replace H2 := H2.drew
  refine wpL_take hOps hS rfl (fun _ _ _ h => h) (yl_move rfl _ rfl) ?_
  simp only [Act.put, Act.eval, List.setIfInBounds_toArray, List.set_cons_zero, List.set_cons_succ, Array.getD_eq_getD_getElem?, List.getElem?_toArray, List.getElem?_cons_zero, List.getElem?_cons_succ, Option.getD_some]
  refine wpL_take hOps hS rfl (fun _ _ _ h => h) (yl_nil rfl _ rfl _ rfl) ?_
  simp only [Act.put, Act.eval, List.setIfInBounds_toArray, List.set_cons_zero, List.set_cons_succ, Array.getD_eq_getD_getElem?, List.getElem?_toArray, List.getElem?_cons_zero, List.getElem?_cons_succ, Option.getD_some]
  refine wpL_take hOps hS (v := ?vOp62) rfl (fun _ _ _ h => h) (yl rfl ?yOp62) ?_
  case yOp62 => (intro w hw; go_simp; first | done | rfl)
  simp only [Act.put, Act.eval, List.setIfInBounds_toArray, List.set_cons_zero, List.set_cons_succ, Array.getD_eq_getD_getElem?, List.getElem?_toArray, List.getElem?_cons_zero, List.getElem?_cons_succ, Option.getD_some]
  refine wpL_take hOps hS rfl (fun _ _ _ h => h) (yl_get rfl _ _ rfl rfl (by kernel_rfl) (fun w hw => raw_at (At.heap hw 0 rfl) rfl)) ?_
  simp only [Act.put, Act.eval, List.setIfInBounds_toArray, List.set_cons_zero, List.set_cons_succ, Array.getD_eq_getD_getElem?, List.getElem?_toArray, List.getElem?_cons_zero, List.getElem?_cons_succ, Option.getD_some]
  refine wpL_take hOps hS (v := ?vOp66) rfl (fun _ _ _ h => h) (yl rfl ?yOp66) ?_
  case yOp66 => (intro w hw; go_simp; first | done | rfl)
  simp only [Act.put, Act.eval, List.setIfInBounds_toArray, List.set_cons_zero, List.set_cons_succ, Array.getD_eq_getD_getElem?, List.getElem?_toArray, List.getElem?_cons_zero, List.getElem?_cons_succ, Option.getD_some]
  refine wpL_take hOps hS rfl (fun _ _ _ h => h) (yl_move rfl _ rfl) ?_
  simp only [Act.put, Act.eval, List.setIfInBounds_toArray, List.set_cons_zero, List.set_cons_succ, Array.getD_eq_getD_getElem?, List.getElem?_toArray, List.getElem?_cons_zero, List.getElem?_cons_succ, Option.getD_some]
  refine wpL_take hOps hS rfl (fun _ _ _ h => h) (yl_nil rfl _ rfl _ rfl) ?_
  simp only [Act.put, Act.eval, List.setIfInBounds_toArray, List.set_cons_zero, List.set_cons_succ, Array.getD_eq_getD_getElem?, List.getElem?_toArray, List.getElem?_cons_zero, List.getElem?_cons_succ, Option.getD_some]
  refine wpL_take hOps hS (v := ?vOp74) rfl (fun _ _ _ h => h) (yl rfl ?yOp74) ?_
  case yOp74 => (intro w hw; go_simp; first | done | rfl)
  simp only [Act.put, Act.eval, List.setIfInBounds_toArray, List.set_cons_zero, List.set_cons_succ, Array.getD_eq_getD_getElem?, List.getElem?_toArray, List.getElem?_cons_zero, List.getElem?_cons_succ, Option.getD_some]
  refine wpL_take hOps hS rfl (fun _ _ _ h => h) (yl_get rfl _ _ rfl rfl (by kernel_rfl) (fun w hw => raw_at (At.heap hw 0 rfl) rfl)) ?_
  simp only [Act.put, Act.eval, List.setIfInBounds_toArray, List.set_cons_zero, List.set_cons_succ, Array.getD_eq_getD_getElem?, List.getElem?_toArray, List.getElem?_cons_zero, List.getElem?_cons_succ, Option.getD_some]
  refine wpL_take hOps hS (v := ?vOp78) rfl (fun _ _ _ h => h) (yl rfl ?yOp78) ?_
  case yOp78 => (intro w hw; go_simp; first | done | rfl)
  simp only [Act.put, Act.eval, List.setIfInBounds_toArray, List.set_cons_zero, List.set_cons_succ, Array.getD_eq_getD_getElem?, List.getElem?_toArray, List.getElem?_cons_zero, List.getElem?_cons_succ, Option.getD_some]
  refine wpL_end ?_
  clear hOps hS ops
  go_wp2
  go_ret2
  exact ⟨rfl, heapU_shut HO.out HP.out H2⟩
set_option maxRecDepth 10000 in
set_option maxHeartbeats 2000000 in
theorem pushU_room {w0 w : World} {F : List SP} {p : Nat} {most nx : Int} {S : List Thing} (H : At w0 (heapU p most nx S :: F) w) (tick x : Int) (h0 : (S.length : Int) < most) (hn0 : 0 ≤ nx) (hn1 : nx + 1 < 18446744073709551616) (hS : S.length ≤ 999999) :
    Calls Try.prog 20 #[.pointer (some ⟨p, 0, none⟩), .int .u64 tick, .int .u64 x] w fun e w' => e = .returned (.tuple #[.int .u64 nx, .int .i64 0]) ∧ At w0 (heapU p most (nx + 1) (S ++ [(tick, nx, x)]) :: F) w' := by
  obtain ⟨a, cap, l, ho, hp, H2⟩ := heapU_open H
  unfold hdU at H2
  have hl : (l.length : Int) < most := by rw [hp.length_eq]; exact h0
  have hl6 : (l.length : Int) ≤ 999999 := by have := hp.length_eq; omega
  have hl7 : ¬ most ≤ (l.length : Int) := by omega
  have HO := Lib.hid ho
  have HP := Lib.hid hp
  clear hp ho H
  go_enter Try.func20, Try.ntmps20
  go_wp2_with fail
  refine wpL_begin 10 (At w0 (raw p #[.int .i64 most, .slice a l.length cap, .int .u64 nx] 65 :: lrow 67 3 (thC .u64) (.slice a l.length cap) l :: F)) [(0, true), (1, true), (2, true), (3, true), (4, true), (5, true), (6, true), (7, true), (8, true), (9, true)] rfl (by kernel_rfl) (by kernel_rfl) ((H2.drew)) ?_
  intro ops hOps hS
  have H := H2.drew
  clear H2
  refine wpL_take hOps hS rfl (fun _ _ _ h => h) (yl_move rfl _ rfl) ?_
  simp only [Act.put, Act.eval, List.setIfInBounds_toArray, List.set_cons_zero, List.set_cons_succ, Array.getD_eq_getD_getElem?, List.getElem?_toArray, List.getElem?_cons_zero, List.getElem?_cons_succ, Option.getD_some]
  refine wpL_take hOps hS rfl (fun _ _ _ h => h) (yl_nil rfl _ rfl _ rfl) ?_
  simp only [Act.put, Act.eval, List.setIfInBounds_toArray, List.set_cons_zero, List.set_cons_succ, Array.getD_eq_getD_getElem?, List.getElem?_toArray, List.getElem?_cons_zero, List.getElem?_cons_succ, Option.getD_some]
  refine wpL_take hOps hS (v := ?vOp88) rfl (fun _ _ _ h => h) (yl rfl ?yOp88) ?_
  case yOp88 => (intro w hw; go_simp; first | done | rfl)
  simp only [Act.put, Act.eval, List.setIfInBounds_toArray, List.set_cons_zero, List.set_cons_succ, Array.getD_eq_getD_getElem?, List.getElem?_toArray, List.getElem?_cons_zero, List.getElem?_cons_succ, Option.getD_some]
  refine wpL_take hOps hS rfl (fun _ _ _ h => h) (yl_get rfl _ _ rfl rfl (by kernel_rfl) (fun w hw => raw_at (At.heap hw 0 rfl) rfl)) ?_
  simp only [Act.put, Act.eval, List.setIfInBounds_toArray, List.set_cons_zero, List.set_cons_succ, Array.getD_eq_getD_getElem?, List.getElem?_toArray, List.getElem?_cons_zero, List.getElem?_cons_succ, Option.getD_some]
  refine wpL_take hOps hS (v := ?vOp92) rfl (fun _ _ _ h => h) (yl rfl ?yOp92) ?_
  case yOp92 => (intro w hw; go_simp; first | done | rfl)
  simp only [Act.put, Act.eval, List.setIfInBounds_toArray, List.set_cons_zero, List.set_cons_succ, Array.getD_eq_getD_getElem?, List.getElem?_toArray, List.getElem?_cons_zero, List.getElem?_cons_succ, Option.getD_some]
  refine wpL_take hOps hS rfl (fun _ _ _ h => h) (yl_move rfl _ rfl) ?_
  simp only [Act.put, Act.eval, List.setIfInBounds_toArray, List.set_cons_zero, List.set_cons_succ, Array.getD_eq_getD_getElem?, List.getElem?_toArray, List.getElem?_cons_zero, List.getElem?_cons_succ, Option.getD_some]
  refine wpL_take hOps hS rfl (fun _ _ _ h => h) (yl_nil rfl _ rfl _ rfl) ?_
  simp only [Act.put, Act.eval, List.setIfInBounds_toArray, List.set_cons_zero, List.set_cons_succ, Array.getD_eq_getD_getElem?, List.getElem?_toArray, List.getElem?_cons_zero, List.getElem?_cons_succ, Option.getD_some]
  refine wpL_take hOps hS (v := ?vOp100) rfl (fun _ _ _ h => h) (yl rfl ?yOp100) ?_
  case yOp100 => (intro w hw; go_simp; first | done | rfl)
  simp only [Act.put, Act.eval, List.setIfInBounds_toArray, List.set_cons_zero, List.set_cons_succ, Array.getD_eq_getD_getElem?, List.getElem?_toArray, List.getElem?_cons_zero, List.getElem?_cons_succ, Option.getD_some]
  refine wpL_take hOps hS rfl (fun _ _ _ h => h) (yl_get rfl _ _ rfl rfl (by kernel_rfl) (fun w hw => raw_at (At.heap hw 0 rfl) rfl)) ?_
  simp only [Act.put, Act.eval, List.setIfInBounds_toArray, List.set_cons_zero, List.set_cons_succ, Array.getD_eq_getD_getElem?, List.getElem?_toArray, List.getElem?_cons_zero, List.getElem?_cons_succ, Option.getD_some]
  refine wpL_take hOps hS (v := ?vOp104) rfl (fun _ _ _ h => h) (yl rfl ?yOp104) ?_
  case yOp104 => (intro w hw; go_simp; first | done | rfl)
  simp only [Act.put, Act.eval, List.setIfInBounds_toArray, List.set_cons_zero, List.set_cons_succ, Array.getD_eq_getD_getElem?, List.getElem?_toArray, List.getElem?_cons_zero, List.getElem?_cons_succ, Option.getD_some]
  refine wpL_end ?_
  clear hOps hS ops
  go_wp2_with ((with_reducible refine wpList_op rfl ?_); intro _ hK; first | (refine wp_get _ _ rfl rfl (by kernel_rfl) (raw_at (H.heap 0 rfl) rfl) (hK _ _ ?_)) | (refine wp_get _ _ rfl rfl (by kernel_rfl) (raw_at (H.heap 2 rfl) rfl) (hK _ _ ?_)) | (refine wp_lbuild el_thU (y := (tick, nx, x)) _ under_thingsU _ rfl rfl rfl (by omega) (by omega) H (fun C w' H => hK _ _ ?_)) | (refine wp_lapp_one el_thU (y := (tick, nx, x)) _ under_thingsU _ _ rfl rfl (H.pull 2 rfl) rfl 0 rfl rfl (by simp only [maxLen]; omega) (by omega) (fun bb cc w' H => hK _ _ ?_)) | (refine wp_store_sl _ _ _ rfl rfl rfl (by kernel_rfl) rfl 0 H rfl (by simp) fun w' H => hK _ _ ?_) | (refine wp_store_sl _ _ _ rfl rfl rfl (by kernel_rfl) rfl 2 H rfl (by simp) fun w' H => hK _ _ ?_))
  have H2 : At w0 (hdU p most (nx + 1) bb (l.length + 1) cc :: lrow 67 3 (thC .u64) (.slice bb (l ++ [(tick, nx, x)]).length cc) (l ++ [(tick, nx, x)]) :: raw C (thC .u64 (tick, nx, x)).toArray 67 :: F) _ := H.pull 2 rfl
  rw [show l.length + 1 = (l ++ [(tick, nx, x)]).length from by simp] at H2
  refine (upU_c H2 l.length (by simp) (by simp; omega) (HO.out.push _)).mono ?_; rintro e w' ⟨v, l2, rfl, hp2, ho2, H⟩
  have HO2 := Lib.hid ho2
  have HP2 := Lib.hid hp2
  clear ho2 hp2
  go_wp2
  go_ret2
  exact ⟨rfl, heapU_shut HO2.out (HP2.out.trans (HP.out.append_right _)) (H.maskR [true, true, false])⟩
set_option maxRecDepth 10000 in
set_option maxHeartbeats 400000 in
theorem nextU_open {w0 w : World} {F : List SP} {p : Nat} {most nx : Int} {a : Option Addr} {cap : Nat} {l : List Thing} (H2 : At w0 (hdU p most nx a l.length cap :: lrow 67 3 (thC .u64) (.slice a l.length cap) l :: F) w) (hl : 0 < l.length) :
    Calls Try.prog 27 #[.pointer (some ⟨p, 0, none⟩)] w fun e w' => e = .returned (.tuple #[.int .u64 (g l 0).1, .bool true]) ∧ w = w' := by
  unfold hdU at H2
  have hl2 : ¬ (l.length : Int) = 0 := by omega
  obtain ⟨gb, ob, rfl⟩ := lrow_place H2 1 rfl hl
  have hc : w.cell? ⟨p, 1, none⟩ = some (.slice (some ⟨gb, ob, none⟩) l.length cap) := raw_at (H2.heap 0 rfl) rfl
  have hg := g_get hl
  have hb : w.cell? ⟨gb, ob, none⟩ = some (.int .u64 (g l 0).1) := by simpa using lrow_cell el_thU (j := 0) H2 1 rfl hg rfl
  clear hg
  go_enter Try.func27, Try.ntmps27
  go_wp2
  go_ret2
  exact ⟨rfl, rfl⟩
set_option maxRecDepth 10000 in
set_option maxHeartbeats 400000 in
theorem popU_none {w0 w : World} {F : List SP} {p : Nat} {most nx : Int} {S : List Thing} (H : At w0 (heapU p most nx S :: F) w) (now : Int) (h0 : S.length = 0) :
    Calls Try.prog 22 #[.pointer (some ⟨p, 0, none⟩), .int .u64 now] w fun e w' => e = .returned (.tuple #[.int .u64 0, .int .u64 0, .bool false]) ∧ w = w' := by
  go_enter Try.func22, Try.ntmps22
  go_wp2_with fail
  refine (nextU_none H h0).mono ?_; rintro e w' ⟨rfl, rfl⟩
  go_wp2
  go_ret3
  exact ⟨rfl, rfl⟩
set_option maxRecDepth 10000 in
set_option maxHeartbeats 400000 in
theorem popU_early {w0 w : World} {F : List SP} {p : Nat} {most nx : Int} {a : Option Addr} {cap : Nat} {l : List Thing} (H2 : At w0 (hdU p most nx a l.length cap :: lrow 67 3 (thC .u64) (.slice a l.length cap) l :: F) w) (now : Int) (hl : 0 < l.length) (hn : now < (g l 0).1) :
    Calls Try.prog 22 #[.pointer (some ⟨p, 0, none⟩), .int .u64 now] w fun e w' => e = .returned (.tuple #[.int .u64 0, .int .u64 0, .bool false]) ∧ w = w' := by
  go_enter Try.func22, Try.ntmps22
  go_wp2_with fail
  refine (nextU_open H2 hl).mono ?_; rintro e w' ⟨rfl, rfl⟩
  go_wp2
  go_ret3
  exact ⟨rfl, rfl⟩
theorem zero_thU (w : World) : (zeroValue 67).run Try.prog w = .ok (.agg #[.int .u64 0, .int .u64 0, .int .u64 0]) w := by kernel_rfl
theorem zcells_thU : (Builtin.zeroCells (Value.agg #[.int .u64 0, .int .u64 0, .int .u64 0]).cells 1).toList = thC .u64 (0, 0, 0) := by simp [Builtin.zeroCells, thC, Value.cells, List.range_succ]
set_option maxRecDepth 10000 in
set_option maxHeartbeats 2000000 in
theorem popU_some {w0 w : World} {F : List SP} {p : Nat} {most nx : Int} {a : Option Addr} {cap : Nat} {l : List Thing} (H : At w0 (hdU p most nx a l.length cap :: lrow 67 3 (thC .u64) (.slice a l.length cap) l :: F) w) (now : Int) (hl : 0 < l.length) (hn : ¬ now < (g l 0).1) (ho : HeapOK l) (h6 : l.length ≤ 1000000) :
    Calls Try.prog 22 #[.pointer (some ⟨p, 0, none⟩), .int .u64 now] w fun e w' => ∃ l', e = .returned (.tuple #[.int .u64 (g l 0).2.2, .int .u64 (g l 0).1, .bool true]) ∧ (HeapOK l' ∧ (g l 0 :: l').Perm l) ∧ At w0 (hdU p most nx a l'.length cap :: lrow 67 3 (thC .u64) (.slice a l'.length cap) l' :: F) w' := by
  obtain ⟨gb, ob, rfl⟩ := lrow_place H 1 rfl hl
  obtain ⟨n, hln⟩ : ∃ n, l.length = n + 1 := ⟨l.length - 1, by omega⟩
  have hcap : n + 1 ≤ cap := by
    have h := H.pull 1 rfl
    unfold lrow at h
    obtain ⟨_, _, h, _⟩ := At.rows_blk h
    omega
  have hP := Lib.hid (ho.pop hln)
  have hb : w.cell? ⟨gb, ob + 2, none⟩ = some (.int .u64 (g l 0).2.2) := by simpa using lrow_cell el_thU (j := 2) H 1 rfl (g_get hl) rfl
  have hc : w.cell? ⟨p, 1, none⟩ = some (.slice (some ⟨gb, ob, none⟩) (n + 1) cap) := by
    have := H
    unfold hdU at this
    rw [hln] at this
    exact raw_at (this.heap 0 rfl) rfl
  have HLN := Lib.hid hln
  have h6n : (n : Int) ≤ 1000000 := by omega
  clear ho hln h6
  go_enter Try.func22, Try.ntmps22
  go_wp2_with fail
  refine (nextU_open H hl).mono ?_; rintro e w' ⟨rfl, rfl⟩
  go_wp2_with fail
  refine (swapU_c H 0 n (by omega) (by have := HLN.out; omega)).mono ?_; rintro e w' ⟨v, rfl, H⟩
  clear hb hc
  have HS := Lib.hid (sw_length l 0 n)
  obtain ⟨l2, hl2⟩ : ∃ l2, l2 = sw l 0 n := ⟨_, rfl⟩
  rw [← hl2] at H
  have HL2 := Lib.hid hl2
  have hn2 : l2.length = n + 1 := by rw [hl2, HS.out, HLN.out]
  have HN2 := Lib.hid hn2
  clear hl2
  replace H : At w0 (raw p #[.int .i64 most, .slice (some ⟨gb, ob, none⟩) (n + 1) cap, .int .u64 nx] 65 :: lrow 67 3 (thC .u64) (.slice (some ⟨gb, ob, none⟩) l2.length cap) l2 :: F) w' := by
    unfold hdU at H
    rw [← hn2]; exact H
  clear hn2
  go_wp2_with ((with_reducible refine wpList_op rfl ?_); intro _ hK; first | (refine wp_get _ _ rfl rfl (by kernel_rfl) (raw_at (H.heap 0 rfl) rfl) (hK _ _ ?_)) | (refine wp_get _ _ rfl rfl (by kernel_rfl) (raw_at (H.heap 1 rfl) rfl) (hK _ _ ?_)) | (refine wp_lclear_one el_thU (z := (0, 0, 0)) (i := n) _ under_thingsU _ rfl rfl zero_thU zcells_thU (H.pull 1 rfl) (by have := HN2.out; omega) (fun w' H => hK _ _ ?_)) | (refine wp_store_sl _ _ _ rfl rfl rfl (by kernel_rfl) rfl 1 H rfl (by simp) fun w' H => hK _ _ ?_))
  have e1 : (l2.set n (0, 0, 0)).take n = l2.take n := List.take_set_of_le (Nat.le_refl _)
  have e2 : (l2.take n).length = n := by have := HN2.out; rw [List.length_take]; omega
  have H2 := At.lrow_take el_thU (ys := l2.set n (0, 0, 0)) H (q := n) (by have := HN2.out; rw [List.length_set]; omega)
  rw [e1] at H2
  have H3 : At w0 (hdU p most nx (some ⟨gb, ob, none⟩) (l2.take n).length cap :: lrow 67 3 (thC .u64) (.slice (some ⟨gb, ob, none⟩) (l2.take n).length cap) (l2.take n) :: F) w' := by
    unfold hdU
    rw [e2] at H2 ⊢
    exact H2.pull 1 rfl
  have hd := hP.out.1
  rw [← HL2.out] at hd
  refine (downU_c H3 (by omega) hd).mono ?_; rintro e w' ⟨v2, l3, rfl, hp3, ho3, H⟩
  have HO3 := Lib.hid ho3
  have HP3 := Lib.hid hp3
  clear ho3 hp3 hd e1 e2 H2 H3
  go_wp2
  go_ret3
  have hq := hP.out.2
  rw [← HL2.out] at hq
  exact ⟨l3, rfl, ⟨HO3.out, (HP3.out.cons _).trans hq⟩, H⟩
/-- Pop, told of the row. -/
theorem popU_c {w0 w : World} {F : List SP} {p : Nat} {most nx : Int} {L : List Thing} (H : At w0 (heapU p most nx L :: F) w) (hR : RowOK L nx) (h6 : L.length ≤ 1000000) (now : Int) :
    Calls Try.prog 22 #[.pointer (some ⟨p, 0, none⟩), .int .u64 now] w fun e w' => e = .returned (.tuple #[.int .u64 (popX L now), .int .u64 (popT L now), .bool (popB L now)]) ∧ At w0 (heapU p most nx (popR L now) :: F) w' := by
  by_cases h0 : L.length = 0
  · have hb : popB L now = false := decide_eq_false (by omega)
    refine (popU_none H now h0).mono fun e w' h => ?_
    unfold popX popT popR
    rw [hb]
    exact ⟨h.1, h.2 ▸ H⟩
  · obtain ⟨a, cap, l, ho, hp, H2⟩ := heapU_open H
    have hl : 0 < l.length := by have := hp.length_eq; omega
    have hm : g l 0 = g L (fk L) := hR.first (hp.mem_iff.1 (List.mem_of_getElem? (g_get hl))) fun u hu => by
      obtain ⟨k, hk⟩ := List.getElem?_of_mem (hp.mem_iff.2 hu)
      rw [← g_of hk]
      exact ho.least k (List.getElem?_eq_some_iff.1 hk).1
    by_cases hn : now < (g l 0).1
    · have hb : popB L now = false := decide_eq_false (by rw [← hm]; omega)
      refine (popU_early H2 now hl hn).mono fun e w' h => ?_
      unfold popX popT popR
      rw [hb]
      exact ⟨h.1, h.2 ▸ H⟩
    · have hb : popB L now = true := decide_eq_true (by rw [← hm]; omega)
      refine (popU_some H2 now hl hn ho (by have := hp.length_eq; omega)).mono fun e w' h => ?_
      obtain ⟨l', h1, ⟨h2, h3⟩, h4⟩ := h
      unfold popX popT popR
      rw [hb, ← hm]
      exact ⟨h1, heapU_shut h2 (erase_perm (fk_lt (by omega)) (hm ▸ h3.trans hp)) h4⟩
/-- Push, told of the row. -/
theorem pushU_c {w0 w : World} {F : List SP} {p : Nat} {most nx : Int} {L : List Thing} (H : At w0 (heapU p most nx L :: F) w) (hn0 : 0 ≤ nx) (hn1 : nx + 1 < 18446744073709551616) (h6 : L.length ≤ 999999) (tick x : Int) :
    Calls Try.prog 20 #[.pointer (some ⟨p, 0, none⟩), .int .u64 tick, .int .u64 x] w fun e w' => e = .returned (.tuple #[.int .u64 (pushN most nx L), .int .i64 (pushE most L)]) ∧ At w0 (heapU p most (pushX most nx L) (pushL most nx L tick x) :: F) w' := by
  unfold pushN pushE pushX pushL
  by_cases h : most ≤ (L.length : Int)
  · simp only [if_pos h]
    exact pushU_full H tick x h
  · simp only [if_neg h]
    exact pushU_room H tick x (by omega) hn0 hn1 h6
/-- Next, told of the row. -/
theorem nextU_c {w0 w : World} {F : List SP} {p : Nat} {most nx : Int} {L : List Thing} (H : At w0 (heapU p most nx L :: F) w) (hR : RowOK L nx) :
    Calls Try.prog 27 #[.pointer (some ⟨p, 0, none⟩)] w fun e w' => e = .returned (.tuple #[.int .u64 (nextT L), .bool (decide (0 < L.length))]) ∧ w = w' := by
  unfold nextT
  by_cases h0 : 0 < L.length
  · rw [if_pos h0, decide_eq_true h0]
    refine (nextU_some H h0).mono fun e w' h => ?_
    obtain ⟨m, h1, h2, h3, h4⟩ := h
    rw [← hR.first h1 h2]
    exact ⟨h3, h4⟩
  · rw [if_neg h0, decide_eq_false h0]
    exact nextU_none H (by omega)
end Go.Proofs.Ytkbdpidcdmhhgaa
