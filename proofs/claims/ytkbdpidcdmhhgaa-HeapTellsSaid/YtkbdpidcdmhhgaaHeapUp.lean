/-
  A thing rises to its place, or sinks to it.
-/
import Derived.Test.YtkbdpidcdmhhgaaHeap
namespace Go.Proofs.Ytkbdpidcdmhhgaa
open Go.RowKit Go.Hg
set_option linter.unusedSimpArgs false
set_option linter.unusedVariables false
def UpRI (w0 : World) (L : List SP) (p : Nat) (most nx : Int) (a : Option Addr) (cap : Nat) (l0 : List Thing) (j : Nat) (l : List Thing) (w : World) : Prop :=
  j < l.length ∧ l.length = l0.length ∧ l.Perm l0 ∧ UpOK l j ∧ At w0 (hdI p most nx a l.length cap :: lrow 60 3 (thC .i64) (.slice a l.length cap) l :: L) w
set_option maxRecDepth 10000 in
set_option maxHeartbeats 2000000 in
theorem upI_c {w0 w : World} {L : List SP} {p : Nat} {most nx : Int} {a : Option Addr} {cap : Nat} {l0 : List Thing}
    (H : At w0 (hdI p most nx a l0.length cap :: lrow 60 3 (thC .i64) (.slice a l0.length cap) l0 :: L) w) (i : Nat) (hi : i < l0.length) (hl : l0.length ≤ 1000000) (hU : UpOK l0 i) :
    Calls Try.prog 23 #[.pointer (some ⟨p, 0, none⟩), .int .i64 i] w fun e w' => ∃ v l, e = .returned v ∧ l.Perm l0 ∧ HeapOK l ∧ At w0 (hdI p most nx a l.length cap :: lrow 60 3 (thC .i64) (.slice a l.length cap) l :: L) w' := by
  obtain ⟨gb, ob, rfl⟩ := lrow_place H 1 rfl (by omega)
  go_enter Try.func23, Try.ntmps23
  go_wp2_with fail
  go_loopw [1] (fun i wr => ∃ (j : Nat) (l : List Thing), i = .int .i64 j ∧ UpRI w0 L p most nx (some ⟨gb, ob, none⟩) cap l0 j l wr) (fun i _ => (intOf i).toNat)
  case atStart => exact ⟨i, l0, rfl, hi, rfl, List.Perm.refl _, hU, H⟩
  case round =>
    clear H hU hi
    obtain ⟨j, l, rfl, hj, hll, hp, hU, H⟩ := hrel
    unfold hdI at H
    have HU := Lib.hid hU
    have HP := Lib.hid hp
    have HLL := Lib.hid hll
    clear hU hp hll
    go_wp2_with fail
    by_cases h0 : j = 0
    · subst h0
      refine wpL_begin 21 (At w0 (raw p #[.int .i64 most, .slice (some ⟨gb, ob, none⟩) l.length cap, .int .u64 nx] 58 :: lrow 60 3 (thC .i64) (.slice (some ⟨gb, ob, none⟩) l.length cap) l :: L)) [(0, true), (1, true), (2, true), (3, true), (4, true), (5, true), (6, true), (7, true), (8, true), (9, true), (10, true), (11, true), (12, true), (13, true), (14, true), (15, true), (16, true), (17, true), (18, true), (19, false), (20, true)] rfl (by kernel_rfl) (by kernel_rfl) ((H.drew)) ?_
      intro ops hOps hS
      replace H := H.drew
      refine wpL_take hOps hS rfl (fun _ _ _ h => h) (yl_move rfl _ rfl) ?_
      simp only [Act.put, Act.eval, List.setIfInBounds_toArray, List.set_cons_zero, List.set_cons_succ, Array.getD_eq_getD_getElem?, List.getElem?_toArray, List.getElem?_cons_zero, List.getElem?_cons_succ, Option.getD_some]
      refine wpL_take hOps hS (v := ?vOp226) rfl (fun _ _ _ h => h) (yl rfl ?yOp226) ?_
      case yOp226 => (intro w hw; go_simp; first | done | rfl)
      simp only [Act.put, Act.eval, List.setIfInBounds_toArray, List.set_cons_zero, List.set_cons_succ, Array.getD_eq_getD_getElem?, List.getElem?_toArray, List.getElem?_cons_zero, List.getElem?_cons_succ, Option.getD_some]
      refine wpL_take hOps hS rfl (fun _ _ _ h => h) (yl_move rfl _ rfl) ?_
      simp only [Act.put, Act.eval, List.setIfInBounds_toArray, List.set_cons_zero, List.set_cons_succ, Array.getD_eq_getD_getElem?, List.getElem?_toArray, List.getElem?_cons_zero, List.getElem?_cons_succ, Option.getD_some]
      refine wpL_take hOps hS rfl (fun _ _ _ h => h) (yn rfl) ?_
      simp only [Act.put, Act.eval, List.setIfInBounds_toArray, List.set_cons_zero, List.set_cons_succ, Array.getD_eq_getD_getElem?, List.getElem?_toArray, List.getElem?_cons_zero, List.getElem?_cons_succ, Option.getD_some]
      refine wpL_take hOps hS rfl (fun _ _ _ h => h) (yn rfl) ?_
      simp only [Act.put, Act.eval, List.setIfInBounds_toArray, List.set_cons_zero, List.set_cons_succ, Array.getD_eq_getD_getElem?, List.getElem?_toArray, List.getElem?_cons_zero, List.getElem?_cons_succ, Option.getD_some]
      refine wpL_take hOps hS rfl (fun _ _ _ h => h) (yn rfl) ?_
      simp only [Act.put, Act.eval, List.setIfInBounds_toArray, List.set_cons_zero, List.set_cons_succ, Array.getD_eq_getD_getElem?, List.getElem?_toArray, List.getElem?_cons_zero, List.getElem?_cons_succ, Option.getD_some]
      refine wpL_take hOps hS rfl (fun _ _ _ h => h) (yn rfl) ?_
      simp only [Act.put, Act.eval, List.setIfInBounds_toArray, List.set_cons_zero, List.set_cons_succ, Array.getD_eq_getD_getElem?, List.getElem?_toArray, List.getElem?_cons_zero, List.getElem?_cons_succ, Option.getD_some]
      refine wpL_take hOps hS rfl (fun _ _ _ h => h) (yn rfl) ?_
      simp only [Act.put, Act.eval, List.setIfInBounds_toArray, List.set_cons_zero, List.set_cons_succ, Array.getD_eq_getD_getElem?, List.getElem?_toArray, List.getElem?_cons_zero, List.getElem?_cons_succ, Option.getD_some]
      refine wpL_take hOps hS rfl (fun _ _ _ h => h) (yn rfl) ?_
      simp only [Act.put, Act.eval, List.setIfInBounds_toArray, List.set_cons_zero, List.set_cons_succ, Array.getD_eq_getD_getElem?, List.getElem?_toArray, List.getElem?_cons_zero, List.getElem?_cons_succ, Option.getD_some]
      refine wpL_take hOps hS rfl (fun _ _ _ h => h) (yn rfl) ?_
      simp only [Act.put, Act.eval, List.setIfInBounds_toArray, List.set_cons_zero, List.set_cons_succ, Array.getD_eq_getD_getElem?, List.getElem?_toArray, List.getElem?_cons_zero, List.getElem?_cons_succ, Option.getD_some]
      refine wpL_take hOps hS rfl (fun _ _ _ h => h) (yn rfl) ?_
      simp only [Act.put, Act.eval, List.setIfInBounds_toArray, List.set_cons_zero, List.set_cons_succ, Array.getD_eq_getD_getElem?, List.getElem?_toArray, List.getElem?_cons_zero, List.getElem?_cons_succ, Option.getD_some]
      refine wpL_take hOps hS rfl (fun _ _ _ h => h) (yn rfl) ?_
      simp only [Act.put, Act.eval, List.setIfInBounds_toArray, List.set_cons_zero, List.set_cons_succ, Array.getD_eq_getD_getElem?, List.getElem?_toArray, List.getElem?_cons_zero, List.getElem?_cons_succ, Option.getD_some]
      refine wpL_take hOps hS rfl (fun _ _ _ h => h) (yn rfl) ?_
      simp only [Act.put, Act.eval, List.setIfInBounds_toArray, List.set_cons_zero, List.set_cons_succ, Array.getD_eq_getD_getElem?, List.getElem?_toArray, List.getElem?_cons_zero, List.getElem?_cons_succ, Option.getD_some]
      refine wpL_take hOps hS rfl (fun _ _ _ h => h) (yn rfl) ?_
      simp only [Act.put, Act.eval, List.setIfInBounds_toArray, List.set_cons_zero, List.set_cons_succ, Array.getD_eq_getD_getElem?, List.getElem?_toArray, List.getElem?_cons_zero, List.getElem?_cons_succ, Option.getD_some]
      refine wpL_take hOps hS rfl (fun _ _ _ h => h) (yn rfl) ?_
      simp only [Act.put, Act.eval, List.setIfInBounds_toArray, List.set_cons_zero, List.set_cons_succ, Array.getD_eq_getD_getElem?, List.getElem?_toArray, List.getElem?_cons_zero, List.getElem?_cons_succ, Option.getD_some]
      refine wpL_take hOps hS rfl (fun _ _ _ h => h) (yn rfl) ?_
      simp only [Act.put, Act.eval, List.setIfInBounds_toArray, List.set_cons_zero, List.set_cons_succ, Array.getD_eq_getD_getElem?, List.getElem?_toArray, List.getElem?_cons_zero, List.getElem?_cons_succ, Option.getD_some]
      refine wpL_take hOps hS rfl (fun _ _ _ h => h) (yn rfl) ?_
      simp only [Act.put, Act.eval, List.setIfInBounds_toArray, List.set_cons_zero, List.set_cons_succ, Array.getD_eq_getD_getElem?, List.getElem?_toArray, List.getElem?_cons_zero, List.getElem?_cons_succ, Option.getD_some]
      refine wpL_take hOps hS rfl (fun _ _ _ h => h) (yn rfl) ?_
      simp only [Act.put, Act.eval, List.setIfInBounds_toArray, List.set_cons_zero, List.set_cons_succ, Array.getD_eq_getD_getElem?, List.getElem?_toArray, List.getElem?_cons_zero, List.getElem?_cons_succ, Option.getD_some]
      refine wpL_take hOps hS rfl (fun _ _ _ h => h) (yn rfl) ?_
      simp only [Act.put, Act.eval, List.setIfInBounds_toArray, List.set_cons_zero, List.set_cons_succ, Array.getD_eq_getD_getElem?, List.getElem?_toArray, List.getElem?_cons_zero, List.getElem?_cons_succ, Option.getD_some]
      refine wpL_skip hOps hS rfl rfl ?_
      simp only [Act.put, Act.eval, List.setIfInBounds_toArray, List.set_cons_zero, List.set_cons_succ, Array.getD_eq_getD_getElem?, List.getElem?_toArray, List.getElem?_cons_zero, List.getElem?_cons_succ, Option.getD_some]
      refine wpL_take hOps hS (v := ?vOp265) rfl (fun _ _ _ h => h) (yl rfl ?yOp265) ?_
      case yOp265 => (intro w hw; go_simp; first | done | rfl)
      simp only [Act.put, Act.eval, List.setIfInBounds_toArray, List.set_cons_zero, List.set_cons_succ, Array.getD_eq_getD_getElem?, List.getElem?_toArray, List.getElem?_cons_zero, List.getElem?_cons_succ, Option.getD_some]
      refine wpL_end ?_
      clear hOps hS ops
      go_wp2
      go_end0
      exact ⟨_, l, rfl, HP.out, HU.out.stop (fun h => absurd h (by omega)), H⟩
    · obtain ⟨q, hq⟩ : ∃ q, q = (j - 1) / 2 := ⟨_, rfl⟩
      have hq2 : ((j : Int) - 1) / 2 = (q : Int) := by omega
      have hjl : (j : Int) < l.length := by omega
      have hql : (q : Int) < l.length := by omega
      have hqn : q < l.length := by omega
      have hj6 : (j : Int) ≤ 1000000 := by have := HLL.out; omega
      have hj1 : (1 : Int) ≤ (j : Int) := by omega
      have Hj := Lib.hid (g_get hj)
      have Hq := Lib.hid (g_get (show q < l.length by omega))
      have HQ := Lib.hid hq
      clear hq
      refine wpL_begin 21 (At w0 (raw p #[.int .i64 most, .slice (some ⟨gb, ob, none⟩) l.length cap, .int .u64 nx] 58 :: lrow 60 3 (thC .i64) (.slice (some ⟨gb, ob, none⟩) l.length cap) l :: L)) [(0, true), (1, true), (2, true), (3, true), (4, true), (5, true), (6, true), (7, true), (8, true), (9, true), (10, true), (11, true), (12, true), (13, true), (14, true), (15, true), (16, true), (17, true), (18, true), (19, false), (20, true)] rfl (by kernel_rfl) (by kernel_rfl) ((H.drew)) ?_
      intro ops hOps hS
      replace H := H.drew
      refine wpL_take hOps hS rfl (fun _ _ _ h => h) (yl_move rfl _ rfl) ?_
      simp only [Act.put, Act.eval, List.setIfInBounds_toArray, List.set_cons_zero, List.set_cons_succ, Array.getD_eq_getD_getElem?, List.getElem?_toArray, List.getElem?_cons_zero, List.getElem?_cons_succ, Option.getD_some]
      refine wpL_take hOps hS (v := ?vOp272) rfl (fun _ _ _ h => h) (yl rfl ?yOp272) ?_
      case yOp272 => (intro w hw; go_simp; first | done | rfl)
      simp only [Act.put, Act.eval, List.setIfInBounds_toArray, List.set_cons_zero, List.set_cons_succ, Array.getD_eq_getD_getElem?, List.getElem?_toArray, List.getElem?_cons_zero, List.getElem?_cons_succ, Option.getD_some]
      rw [show decide (0 < j) = true from decide_eq_true (by omega)]
      refine wpL_take hOps hS rfl (fun _ _ _ h => h) (yl_move rfl _ rfl) ?_
      simp only [Act.put, Act.eval, List.setIfInBounds_toArray, List.set_cons_zero, List.set_cons_succ, Array.getD_eq_getD_getElem?, List.getElem?_toArray, List.getElem?_cons_zero, List.getElem?_cons_succ, Option.getD_some]
      refine wpL_take hOps hS rfl (fun _ _ _ h => h) (yl_move rfl _ rfl) ?_
      simp only [Act.put, Act.eval, List.setIfInBounds_toArray, List.set_cons_zero, List.set_cons_succ, Array.getD_eq_getD_getElem?, List.getElem?_toArray, List.getElem?_cons_zero, List.getElem?_cons_succ, Option.getD_some]
      refine wpL_take hOps hS rfl (fun _ _ _ h => h) (yl_nil rfl _ rfl _ rfl) ?_
      simp only [Act.put, Act.eval, List.setIfInBounds_toArray, List.set_cons_zero, List.set_cons_succ, Array.getD_eq_getD_getElem?, List.getElem?_toArray, List.getElem?_cons_zero, List.getElem?_cons_succ, Option.getD_some]
      refine wpL_take hOps hS (v := ?vOp283) rfl (fun _ _ _ h => h) (yl rfl ?yOp283) ?_
      case yOp283 => (intro w hw; go_simp; first | done | rfl)
      simp only [Act.put, Act.eval, List.setIfInBounds_toArray, List.set_cons_zero, List.set_cons_succ, Array.getD_eq_getD_getElem?, List.getElem?_toArray, List.getElem?_cons_zero, List.getElem?_cons_succ, Option.getD_some]
      refine wpL_take hOps hS rfl (fun _ _ _ h => h) (yl_get rfl _ _ rfl rfl (by kernel_rfl) (fun w hw => raw_at (At.heap hw 0 rfl) rfl)) ?_
      simp only [Act.put, Act.eval, List.setIfInBounds_toArray, List.set_cons_zero, List.set_cons_succ, Array.getD_eq_getD_getElem?, List.getElem?_toArray, List.getElem?_cons_zero, List.getElem?_cons_succ, Option.getD_some]
      refine wpL_take hOps hS rfl (fun _ _ _ h => h) (yl_move rfl _ rfl) ?_
      simp only [Act.put, Act.eval, List.setIfInBounds_toArray, List.set_cons_zero, List.set_cons_succ, Array.getD_eq_getD_getElem?, List.getElem?_toArray, List.getElem?_cons_zero, List.getElem?_cons_succ, Option.getD_some]
      refine wpL_take hOps hS (v := ?vOp290) rfl (fun _ _ _ h => h) (yl rfl ?yOp290) ?_
      case yOp290 => (intro w hw; go_simp; first | done | rfl)
      simp only [Act.put, Act.eval, List.setIfInBounds_toArray, List.set_cons_zero, List.set_cons_succ, Array.getD_eq_getD_getElem?, List.getElem?_toArray, List.getElem?_cons_zero, List.getElem?_cons_succ, Option.getD_some]
      refine wpL_take hOps hS rfl (fun _ _ _ h => h) (yl_mid rfl _ _ rfl rfl (thC .i64 (g l j)) (by kernel_rfl) (by kernel_rfl) (fun w hw => lrow_at el_thI hw 1 rfl Hj.out)) ?_
      simp only [Act.put, Act.eval, List.setIfInBounds_toArray, List.set_cons_zero, List.set_cons_succ, Array.getD_eq_getD_getElem?, List.getElem?_toArray, List.getElem?_cons_zero, List.getElem?_cons_succ, Option.getD_some]
      refine wpL_take hOps hS rfl (fun _ _ _ h => h) (yl_move rfl _ rfl) ?_
      simp only [Act.put, Act.eval, List.setIfInBounds_toArray, List.set_cons_zero, List.set_cons_succ, Array.getD_eq_getD_getElem?, List.getElem?_toArray, List.getElem?_cons_zero, List.getElem?_cons_succ, Option.getD_some]
      refine wpL_take hOps hS rfl (fun _ _ _ h => h) (yl_nil rfl _ rfl _ rfl) ?_
      simp only [Act.put, Act.eval, List.setIfInBounds_toArray, List.set_cons_zero, List.set_cons_succ, Array.getD_eq_getD_getElem?, List.getElem?_toArray, List.getElem?_cons_zero, List.getElem?_cons_succ, Option.getD_some]
      refine wpL_take hOps hS (v := ?vOp300) rfl (fun _ _ _ h => h) (yl rfl ?yOp300) ?_
      case yOp300 => (intro w hw; go_simp; first | done | rfl)
      simp only [Act.put, Act.eval, List.setIfInBounds_toArray, List.set_cons_zero, List.set_cons_succ, Array.getD_eq_getD_getElem?, List.getElem?_toArray, List.getElem?_cons_zero, List.getElem?_cons_succ, Option.getD_some]
      refine wpL_take hOps hS rfl (fun _ _ _ h => h) (yl_get rfl _ _ rfl rfl (by kernel_rfl) (fun w hw => raw_at (At.heap hw 0 rfl) rfl)) ?_
      simp only [Act.put, Act.eval, List.setIfInBounds_toArray, List.set_cons_zero, List.set_cons_succ, Array.getD_eq_getD_getElem?, List.getElem?_toArray, List.getElem?_cons_zero, List.getElem?_cons_succ, Option.getD_some]
      refine wpL_take hOps hS rfl (fun _ _ _ h => h) (yl_move rfl _ rfl) ?_
      simp only [Act.put, Act.eval, List.setIfInBounds_toArray, List.set_cons_zero, List.set_cons_succ, Array.getD_eq_getD_getElem?, List.getElem?_toArray, List.getElem?_cons_zero, List.getElem?_cons_succ, Option.getD_some]
      refine wpL_take hOps hS (v := ?vOp307) rfl (fun _ _ _ h => h) (yl rfl ?yOp307) ?_
      case yOp307 => (intro w hw; go_simp; first | done | rfl)
      simp only [Act.put, Act.eval, List.setIfInBounds_toArray, List.set_cons_zero, List.set_cons_succ, Array.getD_eq_getD_getElem?, List.getElem?_toArray, List.getElem?_cons_zero, List.getElem?_cons_succ, Option.getD_some]
      rw [show IntKind.i64.wrap ((j : Int) - 1) = (j : Int) - 1 from by rw [IntKind.wrap_i64]; omega]
      refine wpL_take hOps hS (v := ?vOp309) rfl (fun _ _ _ h => h) (yl rfl ?yOp309) ?_
      case yOp309 => (intro w hw; go_simp; first | done | rfl)
      simp only [Act.put, Act.eval, List.setIfInBounds_toArray, List.set_cons_zero, List.set_cons_succ, Array.getD_eq_getD_getElem?, List.getElem?_toArray, List.getElem?_cons_zero, List.getElem?_cons_succ, Option.getD_some]
      rw [show IntKind.i64.wrap (((j : Int) - 1).tdiv 2) = (q : Int) from by rw [Int.tdiv_eq_ediv_of_nonneg (by omega), hq2, IntKind.wrap_i64]; omega]
      refine wpL_take hOps hS (v := ?vOp311) rfl (fun _ _ _ h => h) (yl rfl ?yOp311) ?_
      case yOp311 => (intro w hw; go_simp; first | done | rfl)
      simp only [Act.put, Act.eval, List.setIfInBounds_toArray, List.set_cons_zero, List.set_cons_succ, Array.getD_eq_getD_getElem?, List.getElem?_toArray, List.getElem?_cons_zero, List.getElem?_cons_succ, Option.getD_some]
      refine wpL_take hOps hS rfl (fun _ _ _ h => h) (yl_mid rfl _ _ rfl rfl (thC .i64 (g l q)) (by kernel_rfl) (by kernel_rfl) (fun w hw => lrow_at el_thI hw 1 rfl Hq.out)) ?_
      simp only [Act.put, Act.eval, List.setIfInBounds_toArray, List.set_cons_zero, List.set_cons_succ, Array.getD_eq_getD_getElem?, List.getElem?_toArray, List.getElem?_cons_zero, List.getElem?_cons_succ, Option.getD_some]
      refine wpL_next hOps rfl rfl ?_
      intro K hK
      refine wp_call _ _ _ rfl Try.func30 rfl (by kernel_rfl) ?_
      simp only [List.map_toArray, List.map_cons, List.map_nil, Act.eval, Array.getD_eq_getD_getElem?, List.getElem?_toArray, List.getElem?_cons_zero, List.getElem?_cons_succ, Option.getD_some]
      refine (lessI_c H _ _).mono ?_; rintro e w' ⟨rfl, H⟩
      have hS := (H)
      refine hK _ _ hS ?_
      clear hK K
      simp only [Act.put, Act.eval, List.setIfInBounds_toArray, List.set_cons_zero, List.set_cons_succ, Array.getD_eq_getD_getElem?, List.getElem?_toArray, List.getElem?_cons_zero, List.getElem?_cons_succ, Option.getD_some]
      by_cases hlt : lt (g l j) (g l q)
      · rw [decide_eq_true hlt]
        refine wpL_take hOps hS (v := ?vOp319) rfl (fun _ _ _ h => h) (yl rfl ?yOp319) ?_
        case yOp319 => (intro w hw; go_simp; first | done | rfl)
        simp only [Act.put, Act.eval, List.setIfInBounds_toArray, List.set_cons_zero, List.set_cons_succ, Array.getD_eq_getD_getElem?, List.getElem?_toArray, List.getElem?_cons_zero, List.getElem?_cons_succ, Option.getD_some]
        refine wpL_end ?_
        clear hOps hS ops
        go_wp2_with fail
        refine (swapI_c H j q hjl hql).mono ?_; rintro e w' ⟨v, rfl, H⟩
        go_wp2
        go_roundw
        case rel => exact ⟨q, sw l j q, by rw [hq2], by rw [sw_length]; omega, by rw [sw_length]; exact HLL.out, (sw_perm (by omega) (by omega)).trans HP.out, HQ.out ▸ HU.out.step (by omega) hj (HQ.out ▸ hlt), H⟩
        case measure => simp [intOf]; omega
      · rw [decide_eq_false hlt]
        refine wpL_take hOps hS (v := ?vOp322) rfl (fun _ _ _ h => h) (yl rfl ?yOp322) ?_
        case yOp322 => (intro w hw; go_simp; first | done | rfl)
        simp only [Act.put, Act.eval, List.setIfInBounds_toArray, List.set_cons_zero, List.set_cons_succ, Array.getD_eq_getD_getElem?, List.getElem?_toArray, List.getElem?_cons_zero, List.getElem?_cons_succ, Option.getD_some]
        refine wpL_end ?_
        clear hOps hS ops
        go_wp2
        go_end0
        exact ⟨_, l, rfl, HP.out, HU.out.stop (fun _ _ => HQ.out ▸ hlt), H⟩
def UpRU (w0 : World) (L : List SP) (p : Nat) (most nx : Int) (a : Option Addr) (cap : Nat) (l0 : List Thing) (j : Nat) (l : List Thing) (w : World) : Prop :=
  j < l.length ∧ l.length = l0.length ∧ l.Perm l0 ∧ UpOK l j ∧ At w0 (hdU p most nx a l.length cap :: lrow 67 3 (thC .u64) (.slice a l.length cap) l :: L) w
set_option maxRecDepth 10000 in
set_option maxHeartbeats 2000000 in
theorem upU_c {w0 w : World} {L : List SP} {p : Nat} {most nx : Int} {a : Option Addr} {cap : Nat} {l0 : List Thing}
    (H : At w0 (hdU p most nx a l0.length cap :: lrow 67 3 (thC .u64) (.slice a l0.length cap) l0 :: L) w) (i : Nat) (hi : i < l0.length) (hl : l0.length ≤ 1000000) (hU : UpOK l0 i) :
    Calls Try.prog 26 #[.pointer (some ⟨p, 0, none⟩), .int .i64 i] w fun e w' => ∃ v l, e = .returned v ∧ l.Perm l0 ∧ HeapOK l ∧ At w0 (hdU p most nx a l.length cap :: lrow 67 3 (thC .u64) (.slice a l.length cap) l :: L) w' := by
  obtain ⟨gb, ob, rfl⟩ := lrow_place H 1 rfl (by omega)
  go_enter Try.func26, Try.ntmps26
  go_wp2_with fail
  go_loopw [1] (fun i wr => ∃ (j : Nat) (l : List Thing), i = .int .i64 j ∧ UpRU w0 L p most nx (some ⟨gb, ob, none⟩) cap l0 j l wr) (fun i _ => (intOf i).toNat)
  case atStart => exact ⟨i, l0, rfl, hi, rfl, List.Perm.refl _, hU, H⟩
  case round =>
    clear H hU hi
    obtain ⟨j, l, rfl, hj, hll, hp, hU, H⟩ := hrel
    unfold hdU at H
    have HU := Lib.hid hU
    have HP := Lib.hid hp
    have HLL := Lib.hid hll
    clear hU hp hll
    go_wp2_with fail
    by_cases h0 : j = 0
    · subst h0
      refine wpL_begin 21 (At w0 (raw p #[.int .i64 most, .slice (some ⟨gb, ob, none⟩) l.length cap, .int .u64 nx] 65 :: lrow 67 3 (thC .u64) (.slice (some ⟨gb, ob, none⟩) l.length cap) l :: L)) [(0, true), (1, true), (2, true), (3, true), (4, true), (5, true), (6, true), (7, true), (8, true), (9, true), (10, true), (11, true), (12, true), (13, true), (14, true), (15, true), (16, true), (17, true), (18, true), (19, false), (20, true)] rfl (by kernel_rfl) (by kernel_rfl) ((H.drew)) ?_
      intro ops hOps hS
      replace H := H.drew
      refine wpL_take hOps hS rfl (fun _ _ _ h => h) (yl_move rfl _ rfl) ?_
      simp only [Act.put, Act.eval, List.setIfInBounds_toArray, List.set_cons_zero, List.set_cons_succ, Array.getD_eq_getD_getElem?, List.getElem?_toArray, List.getElem?_cons_zero, List.getElem?_cons_succ, Option.getD_some]
      refine wpL_take hOps hS (v := ?vOp330) rfl (fun _ _ _ h => h) (yl rfl ?yOp330) ?_
      case yOp330 => (intro w hw; go_simp; first | done | rfl)
      simp only [Act.put, Act.eval, List.setIfInBounds_toArray, List.set_cons_zero, List.set_cons_succ, Array.getD_eq_getD_getElem?, List.getElem?_toArray, List.getElem?_cons_zero, List.getElem?_cons_succ, Option.getD_some]
      refine wpL_take hOps hS rfl (fun _ _ _ h => h) (yl_move rfl _ rfl) ?_
      simp only [Act.put, Act.eval, List.setIfInBounds_toArray, List.set_cons_zero, List.set_cons_succ, Array.getD_eq_getD_getElem?, List.getElem?_toArray, List.getElem?_cons_zero, List.getElem?_cons_succ, Option.getD_some]
      refine wpL_take hOps hS rfl (fun _ _ _ h => h) (yn rfl) ?_
      simp only [Act.put, Act.eval, List.setIfInBounds_toArray, List.set_cons_zero, List.set_cons_succ, Array.getD_eq_getD_getElem?, List.getElem?_toArray, List.getElem?_cons_zero, List.getElem?_cons_succ, Option.getD_some]
      refine wpL_take hOps hS rfl (fun _ _ _ h => h) (yn rfl) ?_
      simp only [Act.put, Act.eval, List.setIfInBounds_toArray, List.set_cons_zero, List.set_cons_succ, Array.getD_eq_getD_getElem?, List.getElem?_toArray, List.getElem?_cons_zero, List.getElem?_cons_succ, Option.getD_some]
      refine wpL_take hOps hS rfl (fun _ _ _ h => h) (yn rfl) ?_
      simp only [Act.put, Act.eval, List.setIfInBounds_toArray, List.set_cons_zero, List.set_cons_succ, Array.getD_eq_getD_getElem?, List.getElem?_toArray, List.getElem?_cons_zero, List.getElem?_cons_succ, Option.getD_some]
      refine wpL_take hOps hS rfl (fun _ _ _ h => h) (yn rfl) ?_
      simp only [Act.put, Act.eval, List.setIfInBounds_toArray, List.set_cons_zero, List.set_cons_succ, Array.getD_eq_getD_getElem?, List.getElem?_toArray, List.getElem?_cons_zero, List.getElem?_cons_succ, Option.getD_some]
      refine wpL_take hOps hS rfl (fun _ _ _ h => h) (yn rfl) ?_
      simp only [Act.put, Act.eval, List.setIfInBounds_toArray, List.set_cons_zero, List.set_cons_succ, Array.getD_eq_getD_getElem?, List.getElem?_toArray, List.getElem?_cons_zero, List.getElem?_cons_succ, Option.getD_some]
      refine wpL_take hOps hS rfl (fun _ _ _ h => h) (yn rfl) ?_
      simp only [Act.put, Act.eval, List.setIfInBounds_toArray, List.set_cons_zero, List.set_cons_succ, Array.getD_eq_getD_getElem?, List.getElem?_toArray, List.getElem?_cons_zero, List.getElem?_cons_succ, Option.getD_some]
      refine wpL_take hOps hS rfl (fun _ _ _ h => h) (yn rfl) ?_
      simp only [Act.put, Act.eval, List.setIfInBounds_toArray, List.set_cons_zero, List.set_cons_succ, Array.getD_eq_getD_getElem?, List.getElem?_toArray, List.getElem?_cons_zero, List.getElem?_cons_succ, Option.getD_some]
      refine wpL_take hOps hS rfl (fun _ _ _ h => h) (yn rfl) ?_
      simp only [Act.put, Act.eval, List.setIfInBounds_toArray, List.set_cons_zero, List.set_cons_succ, Array.getD_eq_getD_getElem?, List.getElem?_toArray, List.getElem?_cons_zero, List.getElem?_cons_succ, Option.getD_some]
      refine wpL_take hOps hS rfl (fun _ _ _ h => h) (yn rfl) ?_
      simp only [Act.put, Act.eval, List.setIfInBounds_toArray, List.set_cons_zero, List.set_cons_succ, Array.getD_eq_getD_getElem?, List.getElem?_toArray, List.getElem?_cons_zero, List.getElem?_cons_succ, Option.getD_some]
      refine wpL_take hOps hS rfl (fun _ _ _ h => h) (yn rfl) ?_
      simp only [Act.put, Act.eval, List.setIfInBounds_toArray, List.set_cons_zero, List.set_cons_succ, Array.getD_eq_getD_getElem?, List.getElem?_toArray, List.getElem?_cons_zero, List.getElem?_cons_succ, Option.getD_some]
      refine wpL_take hOps hS rfl (fun _ _ _ h => h) (yn rfl) ?_
      simp only [Act.put, Act.eval, List.setIfInBounds_toArray, List.set_cons_zero, List.set_cons_succ, Array.getD_eq_getD_getElem?, List.getElem?_toArray, List.getElem?_cons_zero, List.getElem?_cons_succ, Option.getD_some]
      refine wpL_take hOps hS rfl (fun _ _ _ h => h) (yn rfl) ?_
      simp only [Act.put, Act.eval, List.setIfInBounds_toArray, List.set_cons_zero, List.set_cons_succ, Array.getD_eq_getD_getElem?, List.getElem?_toArray, List.getElem?_cons_zero, List.getElem?_cons_succ, Option.getD_some]
      refine wpL_take hOps hS rfl (fun _ _ _ h => h) (yn rfl) ?_
      simp only [Act.put, Act.eval, List.setIfInBounds_toArray, List.set_cons_zero, List.set_cons_succ, Array.getD_eq_getD_getElem?, List.getElem?_toArray, List.getElem?_cons_zero, List.getElem?_cons_succ, Option.getD_some]
      refine wpL_take hOps hS rfl (fun _ _ _ h => h) (yn rfl) ?_
      simp only [Act.put, Act.eval, List.setIfInBounds_toArray, List.set_cons_zero, List.set_cons_succ, Array.getD_eq_getD_getElem?, List.getElem?_toArray, List.getElem?_cons_zero, List.getElem?_cons_succ, Option.getD_some]
      refine wpL_take hOps hS rfl (fun _ _ _ h => h) (yn rfl) ?_
      simp only [Act.put, Act.eval, List.setIfInBounds_toArray, List.set_cons_zero, List.set_cons_succ, Array.getD_eq_getD_getElem?, List.getElem?_toArray, List.getElem?_cons_zero, List.getElem?_cons_succ, Option.getD_some]
      refine wpL_take hOps hS rfl (fun _ _ _ h => h) (yn rfl) ?_
      simp only [Act.put, Act.eval, List.setIfInBounds_toArray, List.set_cons_zero, List.set_cons_succ, Array.getD_eq_getD_getElem?, List.getElem?_toArray, List.getElem?_cons_zero, List.getElem?_cons_succ, Option.getD_some]
      refine wpL_skip hOps hS rfl rfl ?_
      simp only [Act.put, Act.eval, List.setIfInBounds_toArray, List.set_cons_zero, List.set_cons_succ, Array.getD_eq_getD_getElem?, List.getElem?_toArray, List.getElem?_cons_zero, List.getElem?_cons_succ, Option.getD_some]
      refine wpL_take hOps hS (v := ?vOp369) rfl (fun _ _ _ h => h) (yl rfl ?yOp369) ?_
      case yOp369 => (intro w hw; go_simp; first | done | rfl)
      simp only [Act.put, Act.eval, List.setIfInBounds_toArray, List.set_cons_zero, List.set_cons_succ, Array.getD_eq_getD_getElem?, List.getElem?_toArray, List.getElem?_cons_zero, List.getElem?_cons_succ, Option.getD_some]
      refine wpL_end ?_
      clear hOps hS ops
      go_wp2
      go_end0
      exact ⟨_, l, rfl, HP.out, HU.out.stop (fun h => absurd h (by omega)), H⟩
    · obtain ⟨q, hq⟩ : ∃ q, q = (j - 1) / 2 := ⟨_, rfl⟩
      have hq2 : ((j : Int) - 1) / 2 = (q : Int) := by omega
      have hjl : (j : Int) < l.length := by omega
      have hql : (q : Int) < l.length := by omega
      have hqn : q < l.length := by omega
      have hj6 : (j : Int) ≤ 1000000 := by have := HLL.out; omega
      have hj1 : (1 : Int) ≤ (j : Int) := by omega
      have Hj := Lib.hid (g_get hj)
      have Hq := Lib.hid (g_get (show q < l.length by omega))
      have HQ := Lib.hid hq
      clear hq
      refine wpL_begin 21 (At w0 (raw p #[.int .i64 most, .slice (some ⟨gb, ob, none⟩) l.length cap, .int .u64 nx] 65 :: lrow 67 3 (thC .u64) (.slice (some ⟨gb, ob, none⟩) l.length cap) l :: L)) [(0, true), (1, true), (2, true), (3, true), (4, true), (5, true), (6, true), (7, true), (8, true), (9, true), (10, true), (11, true), (12, true), (13, true), (14, true), (15, true), (16, true), (17, true), (18, true), (19, false), (20, true)] rfl (by kernel_rfl) (by kernel_rfl) ((H.drew)) ?_
      intro ops hOps hS
      replace H := H.drew
      refine wpL_take hOps hS rfl (fun _ _ _ h => h) (yl_move rfl _ rfl) ?_
      simp only [Act.put, Act.eval, List.setIfInBounds_toArray, List.set_cons_zero, List.set_cons_succ, Array.getD_eq_getD_getElem?, List.getElem?_toArray, List.getElem?_cons_zero, List.getElem?_cons_succ, Option.getD_some]
      refine wpL_take hOps hS (v := ?vOp376) rfl (fun _ _ _ h => h) (yl rfl ?yOp376) ?_
      case yOp376 => (intro w hw; go_simp; first | done | rfl)
      simp only [Act.put, Act.eval, List.setIfInBounds_toArray, List.set_cons_zero, List.set_cons_succ, Array.getD_eq_getD_getElem?, List.getElem?_toArray, List.getElem?_cons_zero, List.getElem?_cons_succ, Option.getD_some]
      rw [show decide (0 < j) = true from decide_eq_true (by omega)]
      refine wpL_take hOps hS rfl (fun _ _ _ h => h) (yl_move rfl _ rfl) ?_
      simp only [Act.put, Act.eval, List.setIfInBounds_toArray, List.set_cons_zero, List.set_cons_succ, Array.getD_eq_getD_getElem?, List.getElem?_toArray, List.getElem?_cons_zero, List.getElem?_cons_succ, Option.getD_some]
      refine wpL_take hOps hS rfl (fun _ _ _ h => h) (yl_move rfl _ rfl) ?_
      simp only [Act.put, Act.eval, List.setIfInBounds_toArray, List.set_cons_zero, List.set_cons_succ, Array.getD_eq_getD_getElem?, List.getElem?_toArray, List.getElem?_cons_zero, List.getElem?_cons_succ, Option.getD_some]
      refine wpL_take hOps hS rfl (fun _ _ _ h => h) (yl_nil rfl _ rfl _ rfl) ?_
      simp only [Act.put, Act.eval, List.setIfInBounds_toArray, List.set_cons_zero, List.set_cons_succ, Array.getD_eq_getD_getElem?, List.getElem?_toArray, List.getElem?_cons_zero, List.getElem?_cons_succ, Option.getD_some]
      refine wpL_take hOps hS (v := ?vOp387) rfl (fun _ _ _ h => h) (yl rfl ?yOp387) ?_
      case yOp387 => (intro w hw; go_simp; first | done | rfl)
      simp only [Act.put, Act.eval, List.setIfInBounds_toArray, List.set_cons_zero, List.set_cons_succ, Array.getD_eq_getD_getElem?, List.getElem?_toArray, List.getElem?_cons_zero, List.getElem?_cons_succ, Option.getD_some]
      refine wpL_take hOps hS rfl (fun _ _ _ h => h) (yl_get rfl _ _ rfl rfl (by kernel_rfl) (fun w hw => raw_at (At.heap hw 0 rfl) rfl)) ?_
      simp only [Act.put, Act.eval, List.setIfInBounds_toArray, List.set_cons_zero, List.set_cons_succ, Array.getD_eq_getD_getElem?, List.getElem?_toArray, List.getElem?_cons_zero, List.getElem?_cons_succ, Option.getD_some]
      refine wpL_take hOps hS rfl (fun _ _ _ h => h) (yl_move rfl _ rfl) ?_
      simp only [Act.put, Act.eval, List.setIfInBounds_toArray, List.set_cons_zero, List.set_cons_succ, Array.getD_eq_getD_getElem?, List.getElem?_toArray, List.getElem?_cons_zero, List.getElem?_cons_succ, Option.getD_some]
      refine wpL_take hOps hS (v := ?vOp394) rfl (fun _ _ _ h => h) (yl rfl ?yOp394) ?_
      case yOp394 => (intro w hw; go_simp; first | done | rfl)
      simp only [Act.put, Act.eval, List.setIfInBounds_toArray, List.set_cons_zero, List.set_cons_succ, Array.getD_eq_getD_getElem?, List.getElem?_toArray, List.getElem?_cons_zero, List.getElem?_cons_succ, Option.getD_some]
      refine wpL_take hOps hS rfl (fun _ _ _ h => h) (yl_mid rfl _ _ rfl rfl (thC .u64 (g l j)) (by kernel_rfl) (by kernel_rfl) (fun w hw => lrow_at el_thU hw 1 rfl Hj.out)) ?_
      simp only [Act.put, Act.eval, List.setIfInBounds_toArray, List.set_cons_zero, List.set_cons_succ, Array.getD_eq_getD_getElem?, List.getElem?_toArray, List.getElem?_cons_zero, List.getElem?_cons_succ, Option.getD_some]
      refine wpL_take hOps hS rfl (fun _ _ _ h => h) (yl_move rfl _ rfl) ?_
      simp only [Act.put, Act.eval, List.setIfInBounds_toArray, List.set_cons_zero, List.set_cons_succ, Array.getD_eq_getD_getElem?, List.getElem?_toArray, List.getElem?_cons_zero, List.getElem?_cons_succ, Option.getD_some]
      refine wpL_take hOps hS rfl (fun _ _ _ h => h) (yl_nil rfl _ rfl _ rfl) ?_
      simp only [Act.put, Act.eval, List.setIfInBounds_toArray, List.set_cons_zero, List.set_cons_succ, Array.getD_eq_getD_getElem?, List.getElem?_toArray, List.getElem?_cons_zero, List.getElem?_cons_succ, Option.getD_some]
      refine wpL_take hOps hS (v := ?vOp404) rfl (fun _ _ _ h => h) (yl rfl ?yOp404) ?_
      case yOp404 => (intro w hw; go_simp; first | done | rfl)
      simp only [Act.put, Act.eval, List.setIfInBounds_toArray, List.set_cons_zero, List.set_cons_succ, Array.getD_eq_getD_getElem?, List.getElem?_toArray, List.getElem?_cons_zero, List.getElem?_cons_succ, Option.getD_some]
      refine wpL_take hOps hS rfl (fun _ _ _ h => h) (yl_get rfl _ _ rfl rfl (by kernel_rfl) (fun w hw => raw_at (At.heap hw 0 rfl) rfl)) ?_
      simp only [Act.put, Act.eval, List.setIfInBounds_toArray, List.set_cons_zero, List.set_cons_succ, Array.getD_eq_getD_getElem?, List.getElem?_toArray, List.getElem?_cons_zero, List.getElem?_cons_succ, Option.getD_some]
      refine wpL_take hOps hS rfl (fun _ _ _ h => h) (yl_move rfl _ rfl) ?_
      simp only [Act.put, Act.eval, List.setIfInBounds_toArray, List.set_cons_zero, List.set_cons_succ, Array.getD_eq_getD_getElem?, List.getElem?_toArray, List.getElem?_cons_zero, List.getElem?_cons_succ, Option.getD_some]
      refine wpL_take hOps hS (v := ?vOp411) rfl (fun _ _ _ h => h) (yl rfl ?yOp411) ?_
      case yOp411 => (intro w hw; go_simp; first | done | rfl)
      simp only [Act.put, Act.eval, List.setIfInBounds_toArray, List.set_cons_zero, List.set_cons_succ, Array.getD_eq_getD_getElem?, List.getElem?_toArray, List.getElem?_cons_zero, List.getElem?_cons_succ, Option.getD_some]
      rw [show IntKind.i64.wrap ((j : Int) - 1) = (j : Int) - 1 from by rw [IntKind.wrap_i64]; omega]
      refine wpL_take hOps hS (v := ?vOp413) rfl (fun _ _ _ h => h) (yl rfl ?yOp413) ?_
      case yOp413 => (intro w hw; go_simp; first | done | rfl)
      simp only [Act.put, Act.eval, List.setIfInBounds_toArray, List.set_cons_zero, List.set_cons_succ, Array.getD_eq_getD_getElem?, List.getElem?_toArray, List.getElem?_cons_zero, List.getElem?_cons_succ, Option.getD_some]
      rw [show IntKind.i64.wrap (((j : Int) - 1).tdiv 2) = (q : Int) from by rw [Int.tdiv_eq_ediv_of_nonneg (by omega), hq2, IntKind.wrap_i64]; omega]
      refine wpL_take hOps hS (v := ?vOp415) rfl (fun _ _ _ h => h) (yl rfl ?yOp415) ?_
      case yOp415 => (intro w hw; go_simp; first | done | rfl)
      simp only [Act.put, Act.eval, List.setIfInBounds_toArray, List.set_cons_zero, List.set_cons_succ, Array.getD_eq_getD_getElem?, List.getElem?_toArray, List.getElem?_cons_zero, List.getElem?_cons_succ, Option.getD_some]
      refine wpL_take hOps hS rfl (fun _ _ _ h => h) (yl_mid rfl _ _ rfl rfl (thC .u64 (g l q)) (by kernel_rfl) (by kernel_rfl) (fun w hw => lrow_at el_thU hw 1 rfl Hq.out)) ?_
      simp only [Act.put, Act.eval, List.setIfInBounds_toArray, List.set_cons_zero, List.set_cons_succ, Array.getD_eq_getD_getElem?, List.getElem?_toArray, List.getElem?_cons_zero, List.getElem?_cons_succ, Option.getD_some]
      refine wpL_next hOps rfl rfl ?_
      intro K hK
      refine wp_call _ _ _ rfl Try.func31 rfl (by kernel_rfl) ?_
      simp only [List.map_toArray, List.map_cons, List.map_nil, Act.eval, Array.getD_eq_getD_getElem?, List.getElem?_toArray, List.getElem?_cons_zero, List.getElem?_cons_succ, Option.getD_some]
      refine (lessU_c H _ _).mono ?_; rintro e w' ⟨rfl, H⟩
      have hS := (H)
      refine hK _ _ hS ?_
      clear hK K
      simp only [Act.put, Act.eval, List.setIfInBounds_toArray, List.set_cons_zero, List.set_cons_succ, Array.getD_eq_getD_getElem?, List.getElem?_toArray, List.getElem?_cons_zero, List.getElem?_cons_succ, Option.getD_some]
      by_cases hlt : lt (g l j) (g l q)
      · rw [decide_eq_true hlt]
        refine wpL_take hOps hS (v := ?vOp423) rfl (fun _ _ _ h => h) (yl rfl ?yOp423) ?_
        case yOp423 => (intro w hw; go_simp; first | done | rfl)
        simp only [Act.put, Act.eval, List.setIfInBounds_toArray, List.set_cons_zero, List.set_cons_succ, Array.getD_eq_getD_getElem?, List.getElem?_toArray, List.getElem?_cons_zero, List.getElem?_cons_succ, Option.getD_some]
        refine wpL_end ?_
        clear hOps hS ops
        go_wp2_with fail
        refine (swapU_c H j q hjl hql).mono ?_; rintro e w' ⟨v, rfl, H⟩
        go_wp2
        go_roundw
        case rel => exact ⟨q, sw l j q, by rw [hq2], by rw [sw_length]; omega, by rw [sw_length]; exact HLL.out, (sw_perm (by omega) (by omega)).trans HP.out, HQ.out ▸ HU.out.step (by omega) hj (HQ.out ▸ hlt), H⟩
        case measure => simp [intOf]; omega
      · rw [decide_eq_false hlt]
        refine wpL_take hOps hS (v := ?vOp426) rfl (fun _ _ _ h => h) (yl rfl ?yOp426) ?_
        case yOp426 => (intro w hw; go_simp; first | done | rfl)
        simp only [Act.put, Act.eval, List.setIfInBounds_toArray, List.set_cons_zero, List.set_cons_succ, Array.getD_eq_getD_getElem?, List.getElem?_toArray, List.getElem?_cons_zero, List.getElem?_cons_succ, Option.getD_some]
        refine wpL_end ?_
        clear hOps hS ops
        go_wp2
        go_end0
        exact ⟨_, l, rfl, HP.out, HU.out.stop (fun _ _ => HQ.out ▸ hlt), H⟩
end Go.Proofs.Ytkbdpidcdmhhgaa
