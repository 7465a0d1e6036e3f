/-
  A thing sinks to its place.
-/
import Derived.Test.YtkbdpidcdmhhgaaHeapUp
namespace Go.Proofs.Ytkbdpidcdmhhgaa
open Go.RowKit Go.Hg
set_option linter.unusedSimpArgs false
set_option linter.unusedVariables false
theorem index0 (x y : Int) (w : World) : (Instr.index 69 (.agg #[.int .i64 x, .int .i64 y]) (.int .i64 0)).run Try.prog w = .ok (.int .i64 x) w := by kernel_rfl
theorem index1 (x y : Int) (w : World) : (Instr.index 69 (.agg #[.int .i64 x, .int .i64 y]) (.int .i64 1)).run Try.prog w = .ok (.int .i64 y) w := by kernel_rfl
theorem lt_trans {a b c : Thing} (h1 : lt a b) (h2 : lt b c) : lt a c := by unfold lt at *; omega
/-- The least one so far: of j and its first c kids. -/
def KidR (l : List Thing) (j c m : Nat) : Prop := (m = j ∨ (m < l.length ∧ (m - 1) / 2 = j ∧ 0 < m ∧ lt (g l m) (g l j))) ∧ ∀ k, k < c → 2 * j + 1 + k < l.length → le (g l m) (g l (2 * j + 1 + k))
theorem KidR.le_j {l : List Thing} {j c m : Nat} (h : KidR l j c m) : le (g l m) (g l j) := by
  rcases h.1 with rfl | h
  · exact le_refl _
  · exact le_of_lt h.2.2.2
theorem KidR.next {l : List Thing} {j c m : Nat} (h : KidR l j c m) (hc : c < 2) (hk : 2 * j + 1 + c < l.length) (hlt : lt (g l (2 * j + 1 + c)) (g l m)) : KidR l j (c + 1) (2 * j + 1 + c) := by
  refine ⟨.inr ⟨hk, by omega, by omega, ?_⟩, fun k h1 h2 => ?_⟩
  · rcases h.1 with rfl | h1
    · exact hlt
    · exact lt_trans hlt h1.2.2.2
  · by_cases e : k = c
    · subst e; exact le_refl _
    · exact le_trans (le_of_lt hlt) (h.2 k (by omega) h2)
theorem KidR.keep {l : List Thing} {j c m : Nat} (h : KidR l j c m) (hlt : 2 * j + 1 + c < l.length → ¬ lt (g l (2 * j + 1 + c)) (g l m)) : KidR l j (c + 1) m :=
  ⟨h.1, fun k h1 h2 => by
    by_cases e : k = c
    · subst e; exact hlt h2
    · exact h.2 k (by omega) h2⟩
theorem KidR.stop {l : List Thing} {j m : Nat} (h : KidR l j 2 m) (hD : DownOK l j) (e : m = j) : HeapOK l := by
  subst e
  exact hD.stop (fun h1 => h.2 0 (by omega) h1) (fun h1 => h.2 1 (by omega) h1)
theorem KidR.step {l : List Thing} {j m : Nat} (h : KidR l j 2 m) (hD : DownOK l j) (e : m ≠ j) : j < l.length ∧ m < l.length ∧ j < m ∧ DownOK (sw l j m) m := by
  obtain ⟨h1, h2, h3, h4⟩ := h.1.resolve_left e
  refine ⟨by omega, h1, by omega, hD.step h1 h2 h3 h4 fun k k0 hk hp => ?_⟩
  rcases (by omega : k = 2 * j + 1 + 0 ∨ k = 2 * j + 1 + 1) with rfl | rfl
  · exact h.2 0 (by omega) hk
  · exact h.2 1 (by omega) hk
def DownRI (w0 : World) (L : List SP) (p : Nat) (most nx : Int) (a : Option Addr) (cap : Nat) (l0 : List Thing) (j : Nat) (l : List Thing) (w : World) : Prop :=
  l.length = l0.length ∧ l.Perm l0 ∧ DownOK l j ∧ At w0 (raw p #[.int .i64 most, .slice a l.length cap, .int .u64 nx] 58 :: lrow 60 3 (thC .i64) (.slice a l.length cap) l :: L) w
set_option maxRecDepth 10000 in
set_option maxHeartbeats 2000000 in
theorem downI_c {w0 w : World} {L : List SP} {p : Nat} {most nx : Int} {a : Option Addr} {cap : Nat} {l0 : List Thing}
    (H : At w0 (hdI p most nx a l0.length cap :: lrow 60 3 (thC .i64) (.slice a l0.length cap) l0 :: L) w) (hl : l0.length ≤ 1000000) (hU : DownOK l0 0) :
    Calls Try.prog 25 #[.pointer (some ⟨p, 0, none⟩), .int .i64 0] w fun e w' => ∃ v l, e = .returned v ∧ l.Perm l0 ∧ HeapOK l ∧ At w0 (hdI p most nx a l.length cap :: lrow 60 3 (thC .i64) (.slice a l.length cap) l :: L) w' := by
  unfold hdI at H ⊢
  go_enter Try.func25, Try.ntmps25
  go_wp2_with fail
  go_loopw [1] (fun i wr => ∃ (j : Nat) (l : List Thing), i = .int .i64 j ∧ (j ≤ l0.length) ∧ DownRI w0 L p most nx a cap l0 j l wr) (fun i _ => l0.length - (intOf i).toNat)
  case atStart => exact ⟨0, l0, rfl, by omega, rfl, List.Perm.refl _, hU, H⟩
  case round =>
    clear H hU
    obtain ⟨j, l, rfl, hj, hll, hp, hU, H⟩ := hrel
    have HU := Lib.hid hU
    have HP := Lib.hid hp
    have HLL := Lib.hid hll
    have hj6 : (j : Int) ≤ 1000000 := by omega
    clear hU hp hll
    go_wp2_with fail
    go_loopw [4, 15] (fun m c wr => ∃ mm cc : Nat, m = .int .i64 mm ∧ c = .int .i64 cc ∧ cc ≤ 2 ∧ KidR l j cc mm ∧ DownRI w0 L p most nx a cap l0 j l wr) (fun _ c _ => 2 - (intOf c).toNat)
    case atStart => exact ⟨j, 0, rfl, rfl, by omega, ⟨.inl rfl, fun k h => absurd h (by omega)⟩, HLL.out, HP.out, HU.out, H⟩
    case round =>
      clear H
      obtain ⟨m, c, rfl, rfl, hc, hK2, hx1, hx2, hx3, H⟩ := hrel
      clear hx1 hx2 hx3
      have HK := Lib.hid hK2
      clear hK2
      rcases (by omega : c = 0 ∨ c = 1 ∨ c = 2) with rfl | rfl | rfl
      · obtain ⟨kd, hkd⟩ : ∃ kd : Nat, kd = 2 * j + 1 + 0 := ⟨_, rfl⟩
        have HKD := Lib.hid hkd
        have hkd2 : 2 * (j : Int) + 1 = (kd : Int) := by omega
        clear hkd
        have hix0 := index0
        have hix1 := index1
        go_wp2_with fail
        clear hix0 hix1
        clear hkd2
        by_cases hlt : kd < l.length
        · have hmj : m < l.length := by
            rcases HK.out.1 with e | e
            · have := HKD.out; omega
            · exact e.1
          obtain ⟨gb, ob, rfl⟩ := lrow_place H 1 rfl (by omega)
          have Hk := Lib.hid (g_get hlt)
          have Hm := Lib.hid (g_get hmj)
          refine wpL_begin 24 (At w0 (raw p #[.int .i64 most, .slice (some ⟨gb, ob, none⟩) l.length cap, .int .u64 nx] 58 :: lrow 60 3 (thC .i64) (.slice (some ⟨gb, ob, none⟩) l.length cap) l :: L)) [(0, true), (1, true), (2, true), (3, true), (4, true), (5, true), (6, true), (7, true), (8, true), (9, true), (10, true), (11, true), (12, true), (13, true), (14, true), (15, true), (16, true), (17, true), (18, true), (19, true), (20, true), (21, true), (22, false), (23, true)] rfl (by kernel_rfl) (by kernel_rfl) ((H.drew)) ?_
          intro ops hOps hS
          replace H := H.drew
          refine wpL_take hOps hS rfl (fun _ _ _ h => h) (yl_move rfl _ rfl) ?_
          simp only [Act.put, Act.eval, List.setIfInBounds_toArray, List.set_cons_zero, List.set_cons_succ, Array.getD_eq_getD_getElem?, List.getElem?_toArray, List.getElem?_cons_zero, List.getElem?_cons_succ, Option.getD_some]
          refine wpL_take hOps hS rfl (fun _ _ _ h => h) (yl_move rfl _ rfl) ?_
          simp only [Act.put, Act.eval, List.setIfInBounds_toArray, List.set_cons_zero, List.set_cons_succ, Array.getD_eq_getD_getElem?, List.getElem?_toArray, List.getElem?_cons_zero, List.getElem?_cons_succ, Option.getD_some]
          refine wpL_take hOps hS rfl (fun _ _ _ h => h) (yl_nil rfl _ rfl _ rfl) ?_
          simp only [Act.put, Act.eval, List.setIfInBounds_toArray, List.set_cons_zero, List.set_cons_succ, Array.getD_eq_getD_getElem?, List.getElem?_toArray, List.getElem?_cons_zero, List.getElem?_cons_succ, Option.getD_some]
          refine wpL_take hOps hS (v := ?vOp442) rfl (fun _ _ _ h => h) (yl rfl ?yOp442) ?_
          case yOp442 => (intro w hw; go_simp; first | done | rfl)
          simp only [Act.put, Act.eval, List.setIfInBounds_toArray, List.set_cons_zero, List.set_cons_succ, Array.getD_eq_getD_getElem?, List.getElem?_toArray, List.getElem?_cons_zero, List.getElem?_cons_succ, Option.getD_some]
          refine wpL_take hOps hS rfl (fun _ _ _ h => h) (yl_get rfl _ _ rfl rfl (by kernel_rfl) (fun w hw => raw_at (At.heap hw 0 rfl) rfl)) ?_
          simp only [Act.put, Act.eval, List.setIfInBounds_toArray, List.set_cons_zero, List.set_cons_succ, Array.getD_eq_getD_getElem?, List.getElem?_toArray, List.getElem?_cons_zero, List.getElem?_cons_succ, Option.getD_some]
          refine wpL_take hOps hS (v := ?vOp446) rfl (fun _ _ _ h => h) (yl rfl ?yOp446) ?_
          case yOp446 => (intro w hw; go_simp; first | done | rfl)
          simp only [Act.put, Act.eval, List.setIfInBounds_toArray, List.set_cons_zero, List.set_cons_succ, Array.getD_eq_getD_getElem?, List.getElem?_toArray, List.getElem?_cons_zero, List.getElem?_cons_succ, Option.getD_some]
          refine wpL_take hOps hS (v := ?vOp448) rfl (fun _ _ _ h => h) (yl rfl ?yOp448) ?_
          case yOp448 => (intro w hw; go_simp; first | done | rfl)
          simp only [Act.put, Act.eval, List.setIfInBounds_toArray, List.set_cons_zero, List.set_cons_succ, Array.getD_eq_getD_getElem?, List.getElem?_toArray, List.getElem?_cons_zero, List.getElem?_cons_succ, Option.getD_some]
          first | rw [show decide (kd < l.length) = true from decide_eq_true hlt] | skip
          refine wpL_take hOps hS rfl (fun _ _ _ h => h) (yl_move rfl _ rfl) ?_
          simp only [Act.put, Act.eval, List.setIfInBounds_toArray, List.set_cons_zero, List.set_cons_succ, Array.getD_eq_getD_getElem?, List.getElem?_toArray, List.getElem?_cons_zero, List.getElem?_cons_succ, Option.getD_some]
          refine wpL_take hOps hS rfl (fun _ _ _ h => h) (yl_move rfl _ rfl) ?_
          simp only [Act.put, Act.eval, List.setIfInBounds_toArray, List.set_cons_zero, List.set_cons_succ, Array.getD_eq_getD_getElem?, List.getElem?_toArray, List.getElem?_cons_zero, List.getElem?_cons_succ, Option.getD_some]
          refine wpL_take hOps hS rfl (fun _ _ _ h => h) (yl_nil rfl _ rfl _ rfl) ?_
          simp only [Act.put, Act.eval, List.setIfInBounds_toArray, List.set_cons_zero, List.set_cons_succ, Array.getD_eq_getD_getElem?, List.getElem?_toArray, List.getElem?_cons_zero, List.getElem?_cons_succ, Option.getD_some]
          refine wpL_take hOps hS (v := ?vOp459) rfl (fun _ _ _ h => h) (yl rfl ?yOp459) ?_
          case yOp459 => (intro w hw; go_simp; first | done | rfl)
          simp only [Act.put, Act.eval, List.setIfInBounds_toArray, List.set_cons_zero, List.set_cons_succ, Array.getD_eq_getD_getElem?, List.getElem?_toArray, List.getElem?_cons_zero, List.getElem?_cons_succ, Option.getD_some]
          refine wpL_take hOps hS rfl (fun _ _ _ h => h) (yl_get rfl _ _ rfl rfl (by kernel_rfl) (fun w hw => raw_at (At.heap hw 0 rfl) rfl)) ?_
          simp only [Act.put, Act.eval, List.setIfInBounds_toArray, List.set_cons_zero, List.set_cons_succ, Array.getD_eq_getD_getElem?, List.getElem?_toArray, List.getElem?_cons_zero, List.getElem?_cons_succ, Option.getD_some]
          refine wpL_take hOps hS rfl (fun _ _ _ h => h) (yl_move rfl _ rfl) ?_
          simp only [Act.put, Act.eval, List.setIfInBounds_toArray, List.set_cons_zero, List.set_cons_succ, Array.getD_eq_getD_getElem?, List.getElem?_toArray, List.getElem?_cons_zero, List.getElem?_cons_succ, Option.getD_some]
          refine wpL_take hOps hS (v := ?vOp466) rfl (fun _ _ _ h => h) (yl rfl ?yOp466) ?_
          case yOp466 => (intro w hw; go_simp; first | done | rfl)
          simp only [Act.put, Act.eval, List.setIfInBounds_toArray, List.set_cons_zero, List.set_cons_succ, Array.getD_eq_getD_getElem?, List.getElem?_toArray, List.getElem?_cons_zero, List.getElem?_cons_succ, Option.getD_some]
          refine wpL_take hOps hS rfl (fun _ _ _ h => h) (yl_mid rfl _ _ rfl rfl (thC .i64 (g l kd)) (by kernel_rfl) (by kernel_rfl) (fun w hw => lrow_at el_thI hw 1 rfl Hk.out)) ?_
          simp only [Act.put, Act.eval, List.setIfInBounds_toArray, List.set_cons_zero, List.set_cons_succ, Array.getD_eq_getD_getElem?, List.getElem?_toArray, List.getElem?_cons_zero, List.getElem?_cons_succ, Option.getD_some]
          refine wpL_take hOps hS rfl (fun _ _ _ h => h) (yl_move rfl _ rfl) ?_
          simp only [Act.put, Act.eval, List.setIfInBounds_toArray, List.set_cons_zero, List.set_cons_succ, Array.getD_eq_getD_getElem?, List.getElem?_toArray, List.getElem?_cons_zero, List.getElem?_cons_succ, Option.getD_some]
          refine wpL_take hOps hS rfl (fun _ _ _ h => h) (yl_nil rfl _ rfl _ rfl) ?_
          simp only [Act.put, Act.eval, List.setIfInBounds_toArray, List.set_cons_zero, List.set_cons_succ, Array.getD_eq_getD_getElem?, List.getElem?_toArray, List.getElem?_cons_zero, List.getElem?_cons_succ, Option.getD_some]
          refine wpL_take hOps hS (v := ?vOp476) rfl (fun _ _ _ h => h) (yl rfl ?yOp476) ?_
          case yOp476 => (intro w hw; go_simp; first | done | rfl)
          simp only [Act.put, Act.eval, List.setIfInBounds_toArray, List.set_cons_zero, List.set_cons_succ, Array.getD_eq_getD_getElem?, List.getElem?_toArray, List.getElem?_cons_zero, List.getElem?_cons_succ, Option.getD_some]
          refine wpL_take hOps hS rfl (fun _ _ _ h => h) (yl_get rfl _ _ rfl rfl (by kernel_rfl) (fun w hw => raw_at (At.heap hw 0 rfl) rfl)) ?_
          simp only [Act.put, Act.eval, List.setIfInBounds_toArray, List.set_cons_zero, List.set_cons_succ, Array.getD_eq_getD_getElem?, List.getElem?_toArray, List.getElem?_cons_zero, List.getElem?_cons_succ, Option.getD_some]
          refine wpL_take hOps hS rfl (fun _ _ _ h => h) (yl_move rfl _ rfl) ?_
          simp only [Act.put, Act.eval, List.setIfInBounds_toArray, List.set_cons_zero, List.set_cons_succ, Array.getD_eq_getD_getElem?, List.getElem?_toArray, List.getElem?_cons_zero, List.getElem?_cons_succ, Option.getD_some]
          refine wpL_take hOps hS (v := ?vOp483) rfl (fun _ _ _ h => h) (yl rfl ?yOp483) ?_
          case yOp483 => (intro w hw; go_simp; first | done | rfl)
          simp only [Act.put, Act.eval, List.setIfInBounds_toArray, List.set_cons_zero, List.set_cons_succ, Array.getD_eq_getD_getElem?, List.getElem?_toArray, List.getElem?_cons_zero, List.getElem?_cons_succ, Option.getD_some]
          refine wpL_take hOps hS rfl (fun _ _ _ h => h) (yl_mid rfl _ _ rfl rfl (thC .i64 (g l m)) (by kernel_rfl) (by kernel_rfl) (fun w hw => lrow_at el_thI hw 1 rfl Hm.out)) ?_
          simp only [Act.put, Act.eval, List.setIfInBounds_toArray, List.set_cons_zero, List.set_cons_succ, Array.getD_eq_getD_getElem?, List.getElem?_toArray, List.getElem?_cons_zero, List.getElem?_cons_succ, Option.getD_some]
          refine wpL_next hOps rfl rfl ?_
          intro K hK
          refine wp_call _ _ _ rfl Try.func30 rfl (by kernel_rfl) ?_
          simp only [List.map_toArray, List.map_cons, List.map_nil, Act.eval, Array.getD_eq_getD_getElem?, List.getElem?_toArray, List.getElem?_cons_zero, List.getElem?_cons_succ, Option.getD_some]
          refine (lessI_c H _ _).mono ?_; rintro e w' ⟨rfl, H⟩
          have hS := (H)
          refine hK _ _ hS ?_
          clear hK K
          simp only [Act.put, Act.eval, List.setIfInBounds_toArray, List.set_cons_zero, List.set_cons_succ, Array.getD_eq_getD_getElem?, List.getElem?_toArray, List.getElem?_cons_zero, List.getElem?_cons_succ, Option.getD_some]
          by_cases hl2 : lt (g l kd) (g l m)
          · rw [decide_eq_true hl2]
            refine wpL_take hOps hS (v := ?vOp491) rfl (fun _ _ _ h => h) (yl rfl ?yOp491) ?_
            case yOp491 => (intro w hw; go_simp; first | done | rfl)
            simp only [Act.put, Act.eval, List.setIfInBounds_toArray, List.set_cons_zero, List.set_cons_succ, Array.getD_eq_getD_getElem?, List.getElem?_toArray, List.getElem?_cons_zero, List.getElem?_cons_succ, Option.getD_some]
            refine wpL_end ?_
            clear hOps hS ops
            go_wp2
            go_roundw
            case rel => exact ⟨kd, 0 + 1, rfl, by go_num, by omega, HKD.out ▸ HK.out.next (by omega) (HKD.out ▸ hlt) (HKD.out ▸ hl2), HLL.out, HP.out, HU.out, H⟩
            case measure => simp [intOf]
          · rw [decide_eq_false hl2]
            refine wpL_take hOps hS (v := ?vOp494) rfl (fun _ _ _ h => h) (yl rfl ?yOp494) ?_
            case yOp494 => (intro w hw; go_simp; first | done | rfl)
            simp only [Act.put, Act.eval, List.setIfInBounds_toArray, List.set_cons_zero, List.set_cons_succ, Array.getD_eq_getD_getElem?, List.getElem?_toArray, List.getElem?_cons_zero, List.getElem?_cons_succ, Option.getD_some]
            refine wpL_end ?_
            clear hOps hS ops
            go_wp2
            go_roundw
            case rel => exact ⟨m, 0 + 1, rfl, by go_num, by omega, HK.out.keep (fun _ => HKD.out ▸ hl2), HLL.out, HP.out, HU.out, H⟩
            case measure => simp [intOf]
        · refine wpL_begin 24 (At w0 (raw p #[.int .i64 most, .slice a l.length cap, .int .u64 nx] 58 :: lrow 60 3 (thC .i64) (.slice a l.length cap) l :: L)) [(0, true), (1, true), (2, true), (3, true), (4, true), (5, true), (6, true), (7, true), (8, true), (9, true), (10, true), (11, true), (12, true), (13, true), (14, true), (15, true), (16, true), (17, true), (18, true), (19, true), (20, true), (21, true), (22, false), (23, true)] rfl (by kernel_rfl) (by kernel_rfl) ((H.drew)) ?_
          intro ops hOps hS
          replace H := H.drew
          refine wpL_take hOps hS rfl (fun _ _ _ h => h) (yl_move rfl _ rfl) ?_
          simp only [Act.put, Act.eval, List.setIfInBounds_toArray, List.set_cons_zero, List.set_cons_succ, Array.getD_eq_getD_getElem?, List.getElem?_toArray, List.getElem?_cons_zero, List.getElem?_cons_succ, Option.getD_some]
          refine wpL_take hOps hS rfl (fun _ _ _ h => h) (yl_move rfl _ rfl) ?_
          simp only [Act.put, Act.eval, List.setIfInBounds_toArray, List.set_cons_zero, List.set_cons_succ, Array.getD_eq_getD_getElem?, List.getElem?_toArray, List.getElem?_cons_zero, List.getElem?_cons_succ, Option.getD_some]
          refine wpL_take hOps hS rfl (fun _ _ _ h => h) (yl_nil rfl _ rfl _ rfl) ?_
          simp only [Act.put, Act.eval, List.setIfInBounds_toArray, List.set_cons_zero, List.set_cons_succ, Array.getD_eq_getD_getElem?, List.getElem?_toArray, List.getElem?_cons_zero, List.getElem?_cons_succ, Option.getD_some]
          refine wpL_take hOps hS (v := ?vOp508) rfl (fun _ _ _ h => h) (yl rfl ?yOp508) ?_
          case yOp508 => (intro w hw; go_simp; first | done | rfl)
          simp only [Act.put, Act.eval, List.setIfInBounds_toArray, List.set_cons_zero, List.set_cons_succ, Array.getD_eq_getD_getElem?, List.getElem?_toArray, List.getElem?_cons_zero, List.getElem?_cons_succ, Option.getD_some]
          refine wpL_take hOps hS rfl (fun _ _ _ h => h) (yl_get rfl _ _ rfl rfl (by kernel_rfl) (fun w hw => raw_at (At.heap hw 0 rfl) rfl)) ?_
          simp only [Act.put, Act.eval, List.setIfInBounds_toArray, List.set_cons_zero, List.set_cons_succ, Array.getD_eq_getD_getElem?, List.getElem?_toArray, List.getElem?_cons_zero, List.getElem?_cons_succ, Option.getD_some]
          refine wpL_take hOps hS (v := ?vOp512) rfl (fun _ _ _ h => h) (yl rfl ?yOp512) ?_
          case yOp512 => (intro w hw; go_simp; first | done | rfl)
          simp only [Act.put, Act.eval, List.setIfInBounds_toArray, List.set_cons_zero, List.set_cons_succ, Array.getD_eq_getD_getElem?, List.getElem?_toArray, List.getElem?_cons_zero, List.getElem?_cons_succ, Option.getD_some]
          refine wpL_take hOps hS (v := ?vOp514) rfl (fun _ _ _ h => h) (yl rfl ?yOp514) ?_
          case yOp514 => (intro w hw; go_simp; first | done | rfl)
          simp only [Act.put, Act.eval, List.setIfInBounds_toArray, List.set_cons_zero, List.set_cons_succ, Array.getD_eq_getD_getElem?, List.getElem?_toArray, List.getElem?_cons_zero, List.getElem?_cons_succ, Option.getD_some]
          first | rw [show decide (kd < l.length) = false from decide_eq_false hlt] | skip
          refine wpL_take hOps hS rfl (fun _ _ _ h => h) (yl_move rfl _ rfl) ?_
          simp only [Act.put, Act.eval, List.setIfInBounds_toArray, List.set_cons_zero, List.set_cons_succ, Array.getD_eq_getD_getElem?, List.getElem?_toArray, List.getElem?_cons_zero, List.getElem?_cons_succ, Option.getD_some]
          refine wpL_take hOps hS rfl (fun _ _ _ h => h) (yn rfl) ?_
          simp only [Act.put, Act.eval, List.setIfInBounds_toArray, List.set_cons_zero, List.set_cons_succ, Array.getD_eq_getD_getElem?, List.getElem?_toArray, List.getElem?_cons_zero, List.getElem?_cons_succ, Option.getD_some]
          refine wpL_take hOps hS rfl (fun _ _ _ h => h) (yn rfl) ?_
          simp only [Act.put, Act.eval, List.setIfInBounds_toArray, List.set_cons_zero, List.set_cons_succ, Array.getD_eq_getD_getElem?, List.getElem?_toArray, List.getElem?_cons_zero, List.getElem?_cons_succ, Option.getD_some]
          refine wpL_take hOps hS rfl (fun _ _ _ h => h) (yn rfl) ?_
          simp only [Act.put, Act.eval, List.setIfInBounds_toArray, List.set_cons_zero, List.set_cons_succ, Array.getD_eq_getD_getElem?, List.getElem?_toArray, List.getElem?_cons_zero, List.getElem?_cons_succ, Option.getD_some]
          refine wpL_take hOps hS rfl (fun _ _ _ h => h) (yn rfl) ?_
          simp only [Act.put, Act.eval, List.setIfInBounds_toArray, List.set_cons_zero, List.set_cons_succ, Array.getD_eq_getD_getElem?, List.getElem?_toArray, List.getElem?_cons_zero, List.getElem?_cons_succ, Option.getD_some]
          refine wpL_take hOps hS rfl (fun _ _ _ h => h) (yn rfl) ?_
          simp only [Act.put, Act.eval, List.setIfInBounds_toArray, List.set_cons_zero, List.set_cons_succ, Array.getD_eq_getD_getElem?, List.getElem?_toArray, List.getElem?_cons_zero, List.getElem?_cons_succ, Option.getD_some]
          refine wpL_take hOps hS rfl (fun _ _ _ h => h) (yn rfl) ?_
          simp only [Act.put, Act.eval, List.setIfInBounds_toArray, List.set_cons_zero, List.set_cons_succ, Array.getD_eq_getD_getElem?, List.getElem?_toArray, List.getElem?_cons_zero, List.getElem?_cons_succ, Option.getD_some]
          refine wpL_take hOps hS rfl (fun _ _ _ h => h) (yn rfl) ?_
          simp only [Act.put, Act.eval, List.setIfInBounds_toArray, List.set_cons_zero, List.set_cons_succ, Array.getD_eq_getD_getElem?, List.getElem?_toArray, List.getElem?_cons_zero, List.getElem?_cons_succ, Option.getD_some]
          refine wpL_take hOps hS rfl (fun _ _ _ h => h) (yn rfl) ?_
          simp only [Act.put, Act.eval, List.setIfInBounds_toArray, List.set_cons_zero, List.set_cons_succ, Array.getD_eq_getD_getElem?, List.getElem?_toArray, List.getElem?_cons_zero, List.getElem?_cons_succ, Option.getD_some]
          refine wpL_take hOps hS rfl (fun _ _ _ h => h) (yn rfl) ?_
          simp only [Act.put, Act.eval, List.setIfInBounds_toArray, List.set_cons_zero, List.set_cons_succ, Array.getD_eq_getD_getElem?, List.getElem?_toArray, List.getElem?_cons_zero, List.getElem?_cons_succ, Option.getD_some]
          refine wpL_take hOps hS rfl (fun _ _ _ h => h) (yn rfl) ?_
          simp only [Act.put, Act.eval, List.setIfInBounds_toArray, List.set_cons_zero, List.set_cons_succ, Array.getD_eq_getD_getElem?, List.getElem?_toArray, List.getElem?_cons_zero, List.getElem?_cons_succ, Option.getD_some]
          refine wpL_take hOps hS rfl (fun _ _ _ h => h) (yn rfl) ?_
          simp only [Act.put, Act.eval, List.setIfInBounds_toArray, List.set_cons_zero, List.set_cons_succ, Array.getD_eq_getD_getElem?, List.getElem?_toArray, List.getElem?_cons_zero, List.getElem?_cons_succ, Option.getD_some]
          refine wpL_take hOps hS rfl (fun _ _ _ h => h) (yn rfl) ?_
          simp only [Act.put, Act.eval, List.setIfInBounds_toArray, List.set_cons_zero, List.set_cons_succ, Array.getD_eq_getD_getElem?, List.getElem?_toArray, List.getElem?_cons_zero, List.getElem?_cons_succ, Option.getD_some]
          refine wpL_take hOps hS rfl (fun _ _ _ h => h) (yn rfl) ?_
          simp only [Act.put, Act.eval, List.setIfInBounds_toArray, List.set_cons_zero, List.set_cons_succ, Array.getD_eq_getD_getElem?, List.getElem?_toArray, List.getElem?_cons_zero, List.getElem?_cons_succ, Option.getD_some]
          refine wpL_take hOps hS rfl (fun _ _ _ h => h) (yn rfl) ?_
          simp only [Act.put, Act.eval, List.setIfInBounds_toArray, List.set_cons_zero, List.set_cons_succ, Array.getD_eq_getD_getElem?, List.getElem?_toArray, List.getElem?_cons_zero, List.getElem?_cons_succ, Option.getD_some]
          refine wpL_skip hOps hS rfl rfl ?_
          simp only [Act.put, Act.eval, List.setIfInBounds_toArray, List.set_cons_zero, List.set_cons_succ, Array.getD_eq_getD_getElem?, List.getElem?_toArray, List.getElem?_cons_zero, List.getElem?_cons_succ, Option.getD_some]
          refine wpL_take hOps hS (v := ?vOp549) rfl (fun _ _ _ h => h) (yl rfl ?yOp549) ?_
          case yOp549 => (intro w hw; go_simp; first | done | rfl)
          simp only [Act.put, Act.eval, List.setIfInBounds_toArray, List.set_cons_zero, List.set_cons_succ, Array.getD_eq_getD_getElem?, List.getElem?_toArray, List.getElem?_cons_zero, List.getElem?_cons_succ, Option.getD_some]
          refine wpL_end ?_
          clear hOps hS ops
          go_wp2
          go_roundw
          case rel => exact ⟨m, 0 + 1, rfl, by go_num, by omega, HK.out.keep (fun h => absurd (HKD.out ▸ h) hlt), HLL.out, HP.out, HU.out, H⟩
          case measure => simp [intOf]
      · obtain ⟨kd, hkd⟩ : ∃ kd : Nat, kd = 2 * j + 1 + 1 := ⟨_, rfl⟩
        have HKD := Lib.hid hkd
        have hkd2 : 2 * (j : Int) + 2 = (kd : Int) := by omega
        clear hkd
        have hix0 := index0
        have hix1 := index1
        go_wp2_with fail
        clear hix0 hix1
        clear hkd2
        by_cases hlt : kd < l.length
        · have hmj : m < l.length := by
            rcases HK.out.1 with e | e
            · have := HKD.out; omega
            · exact e.1
          obtain ⟨gb, ob, rfl⟩ := lrow_place H 1 rfl (by omega)
          have Hk := Lib.hid (g_get hlt)
          have Hm := Lib.hid (g_get hmj)
          refine wpL_begin 24 (At w0 (raw p #[.int .i64 most, .slice (some ⟨gb, ob, none⟩) l.length cap, .int .u64 nx] 58 :: lrow 60 3 (thC .i64) (.slice (some ⟨gb, ob, none⟩) l.length cap) l :: L)) [(0, true), (1, true), (2, true), (3, true), (4, true), (5, true), (6, true), (7, true), (8, true), (9, true), (10, true), (11, true), (12, true), (13, true), (14, true), (15, true), (16, true), (17, true), (18, true), (19, true), (20, true), (21, true), (22, false), (23, true)] rfl (by kernel_rfl) (by kernel_rfl) ((H.drew)) ?_
          intro ops hOps hS
          replace H := H.drew
          refine wpL_take hOps hS rfl (fun _ _ _ h => h) (yl_move rfl _ rfl) ?_
          simp only [Act.put, Act.eval, List.setIfInBounds_toArray, List.set_cons_zero, List.set_cons_succ, Array.getD_eq_getD_getElem?, List.getElem?_toArray, List.getElem?_cons_zero, List.getElem?_cons_succ, Option.getD_some]
          refine wpL_take hOps hS rfl (fun _ _ _ h => h) (yl_move rfl _ rfl) ?_
          simp only [Act.put, Act.eval, List.setIfInBounds_toArray, List.set_cons_zero, List.set_cons_succ, Array.getD_eq_getD_getElem?, List.getElem?_toArray, List.getElem?_cons_zero, List.getElem?_cons_succ, Option.getD_some]
          refine wpL_take hOps hS rfl (fun _ _ _ h => h) (yl_nil rfl _ rfl _ rfl) ?_
          simp only [Act.put, Act.eval, List.setIfInBounds_toArray, List.set_cons_zero, List.set_cons_succ, Array.getD_eq_getD_getElem?, List.getElem?_toArray, List.getElem?_cons_zero, List.getElem?_cons_succ, Option.getD_some]
          refine wpL_take hOps hS (v := ?vOp564) rfl (fun _ _ _ h => h) (yl rfl ?yOp564) ?_
          case yOp564 => (intro w hw; go_simp; first | done | rfl)
          simp only [Act.put, Act.eval, List.setIfInBounds_toArray, List.set_cons_zero, List.set_cons_succ, Array.getD_eq_getD_getElem?, List.getElem?_toArray, List.getElem?_cons_zero, List.getElem?_cons_succ, Option.getD_some]
          refine wpL_take hOps hS rfl (fun _ _ _ h => h) (yl_get rfl _ _ rfl rfl (by kernel_rfl) (fun w hw => raw_at (At.heap hw 0 rfl) rfl)) ?_
          simp only [Act.put, Act.eval, List.setIfInBounds_toArray, List.set_cons_zero, List.set_cons_succ, Array.getD_eq_getD_getElem?, List.getElem?_toArray, List.getElem?_cons_zero, List.getElem?_cons_succ, Option.getD_some]
          refine wpL_take hOps hS (v := ?vOp568) rfl (fun _ _ _ h => h) (yl rfl ?yOp568) ?_
          case yOp568 => (intro w hw; go_simp; first | done | rfl)
          simp only [Act.put, Act.eval, List.setIfInBounds_toArray, List.set_cons_zero, List.set_cons_succ, Array.getD_eq_getD_getElem?, List.getElem?_toArray, List.getElem?_cons_zero, List.getElem?_cons_succ, Option.getD_some]
          refine wpL_take hOps hS (v := ?vOp570) rfl (fun _ _ _ h => h) (yl rfl ?yOp570) ?_
          case yOp570 => (intro w hw; go_simp; first | done | rfl)
          simp only [Act.put, Act.eval, List.setIfInBounds_toArray, List.set_cons_zero, List.set_cons_succ, Array.getD_eq_getD_getElem?, List.getElem?_toArray, List.getElem?_cons_zero, List.getElem?_cons_succ, Option.getD_some]
          first | rw [show decide (kd < l.length) = true from decide_eq_true hlt] | skip
          refine wpL_take hOps hS rfl (fun _ _ _ h => h) (yl_move rfl _ rfl) ?_
          simp only [Act.put, Act.eval, List.setIfInBounds_toArray, List.set_cons_zero, List.set_cons_succ, Array.getD_eq_getD_getElem?, List.getElem?_toArray, List.getElem?_cons_zero, List.getElem?_cons_succ, Option.getD_some]
          refine wpL_take hOps hS rfl (fun _ _ _ h => h) (yl_move rfl _ rfl) ?_
          simp only [Act.put, Act.eval, List.setIfInBounds_toArray, List.set_cons_zero, List.set_cons_succ, Array.getD_eq_getD_getElem?, List.getElem?_toArray, List.getElem?_cons_zero, List.getElem?_cons_succ, Option.getD_some]
          refine wpL_take hOps hS rfl (fun _ _ _ h => h) (yl_nil rfl _ rfl _ rfl) ?_
          simp only [Act.put, Act.eval, List.setIfInBounds_toArray, List.set_cons_zero, List.set_cons_succ, Array.getD_eq_getD_getElem?, List.getElem?_toArray, List.getElem?_cons_zero, List.getElem?_cons_succ, Option.getD_some]
          refine wpL_take hOps hS (v := ?vOp581) rfl (fun _ _ _ h => h) (yl rfl ?yOp581) ?_
          case yOp581 => (intro w hw; go_simp; first | done | rfl)
          simp only [Act.put, Act.eval, List.setIfInBounds_toArray, List.set_cons_zero, List.set_cons_succ, Array.getD_eq_getD_getElem?, List.getElem?_toArray, List.getElem?_cons_zero, List.getElem?_cons_succ, Option.getD_some]
          refine wpL_take hOps hS rfl (fun _ _ _ h => h) (yl_get rfl _ _ rfl rfl (by kernel_rfl) (fun w hw => raw_at (At.heap hw 0 rfl) rfl)) ?_
          simp only [Act.put, Act.eval, List.setIfInBounds_toArray, List.set_cons_zero, List.set_cons_succ, Array.getD_eq_getD_getElem?, List.getElem?_toArray, List.getElem?_cons_zero, List.getElem?_cons_succ, Option.getD_some]
          refine wpL_take hOps hS rfl (fun _ _ _ h => h) (yl_move rfl _ rfl) ?_
          simp only [Act.put, Act.eval, List.setIfInBounds_toArray, List.set_cons_zero, List.set_cons_succ, Array.getD_eq_getD_getElem?, List.getElem?_toArray, List.getElem?_cons_zero, List.getElem?_cons_succ, Option.getD_some]
          refine wpL_take hOps hS (v := ?vOp588) rfl (fun _ _ _ h => h) (yl rfl ?yOp588) ?_
          case yOp588 => (intro w hw; go_simp; first | done | rfl)
          simp only [Act.put, Act.eval, List.setIfInBounds_toArray, List.set_cons_zero, List.set_cons_succ, Array.getD_eq_getD_getElem?, List.getElem?_toArray, List.getElem?_cons_zero, List.getElem?_cons_succ, Option.getD_some]
          refine wpL_take hOps hS rfl (fun _ _ _ h => h) (yl_mid rfl _ _ rfl rfl (thC .i64 (g l kd)) (by kernel_rfl) (by kernel_rfl) (fun w hw => lrow_at el_thI hw 1 rfl Hk.out)) ?_
          simp only [Act.put, Act.eval, List.setIfInBounds_toArray, List.set_cons_zero, List.set_cons_succ, Array.getD_eq_getD_getElem?, List.getElem?_toArray, List.getElem?_cons_zero, List.getElem?_cons_succ, Option.getD_some]
          refine wpL_take hOps hS rfl (fun _ _ _ h => h) (yl_move rfl _ rfl) ?_
          simp only [Act.put, Act.eval, List.setIfInBounds_toArray, List.set_cons_zero, List.set_cons_succ, Array.getD_eq_getD_getElem?, List.getElem?_toArray, List.getElem?_cons_zero, List.getElem?_cons_succ, Option.getD_some]
          refine wpL_take hOps hS rfl (fun _ _ _ h => h) (yl_nil rfl _ rfl _ rfl) ?_
          simp only [Act.put, Act.eval, List.setIfInBounds_toArray, List.set_cons_zero, List.set_cons_succ, Array.getD_eq_getD_getElem?, List.getElem?_toArray, List.getElem?_cons_zero, List.getElem?_cons_succ, Option.getD_some]
          refine wpL_take hOps hS (v := ?vOp598) rfl (fun _ _ _ h => h) (yl rfl ?yOp598) ?_
          case yOp598 => (intro w hw; go_simp; first | done | rfl)
          simp only [Act.put, Act.eval, List.setIfInBounds_toArray, List.set_cons_zero, List.set_cons_succ, Array.getD_eq_getD_getElem?, List.getElem?_toArray, List.getElem?_cons_zero, List.getElem?_cons_succ, Option.getD_some]
          refine wpL_take hOps hS rfl (fun _ _ _ h => h) (yl_get rfl _ _ rfl rfl (by kernel_rfl) (fun w hw => raw_at (At.heap hw 0 rfl) rfl)) ?_
          simp only [Act.put, Act.eval, List.setIfInBounds_toArray, List.set_cons_zero, List.set_cons_succ, Array.getD_eq_getD_getElem?, List.getElem?_toArray, List.getElem?_cons_zero, List.getElem?_cons_succ, Option.getD_some]
          refine wpL_take hOps hS rfl (fun _ _ _ h => h) (yl_move rfl _ rfl) ?_
          simp only [Act.put, Act.eval, List.setIfInBounds_toArray, List.set_cons_zero, List.set_cons_succ, Array.getD_eq_getD_getElem?, List.getElem?_toArray, List.getElem?_cons_zero, List.getElem?_cons_succ, Option.getD_some]
          refine wpL_take hOps hS (v := ?vOp605) rfl (fun _ _ _ h => h) (yl rfl ?yOp605) ?_
          case yOp605 => (intro w hw; go_simp; first | done | rfl)
          simp only [Act.put, Act.eval, List.setIfInBounds_toArray, List.set_cons_zero, List.set_cons_succ, Array.getD_eq_getD_getElem?, List.getElem?_toArray, List.getElem?_cons_zero, List.getElem?_cons_succ, Option.getD_some]
          refine wpL_take hOps hS rfl (fun _ _ _ h => h) (yl_mid rfl _ _ rfl rfl (thC .i64 (g l m)) (by kernel_rfl) (by kernel_rfl) (fun w hw => lrow_at el_thI hw 1 rfl Hm.out)) ?_
          simp only [Act.put, Act.eval, List.setIfInBounds_toArray, List.set_cons_zero, List.set_cons_succ, Array.getD_eq_getD_getElem?, List.getElem?_toArray, List.getElem?_cons_zero, List.getElem?_cons_succ, Option.getD_some]
          refine wpL_next hOps rfl rfl ?_
          intro K hK
          refine wp_call _ _ _ rfl Try.func30 rfl (by kernel_rfl) ?_
          simp only [List.map_toArray, List.map_cons, List.map_nil, Act.eval, Array.getD_eq_getD_getElem?, List.getElem?_toArray, List.getElem?_cons_zero, List.getElem?_cons_succ, Option.getD_some]
          refine (lessI_c H _ _).mono ?_; rintro e w' ⟨rfl, H⟩
          have hS := (H)
          refine hK _ _ hS ?_
          clear hK K
          simp only [Act.put, Act.eval, List.setIfInBounds_toArray, List.set_cons_zero, List.set_cons_succ, Array.getD_eq_getD_getElem?, List.getElem?_toArray, List.getElem?_cons_zero, List.getElem?_cons_succ, Option.getD_some]
          by_cases hl2 : lt (g l kd) (g l m)
          · rw [decide_eq_true hl2]
            refine wpL_take hOps hS (v := ?vOp613) rfl (fun _ _ _ h => h) (yl rfl ?yOp613) ?_
            case yOp613 => (intro w hw; go_simp; first | done | rfl)
            simp only [Act.put, Act.eval, List.setIfInBounds_toArray, List.set_cons_zero, List.set_cons_succ, Array.getD_eq_getD_getElem?, List.getElem?_toArray, List.getElem?_cons_zero, List.getElem?_cons_succ, Option.getD_some]
            refine wpL_end ?_
            clear hOps hS ops
            go_wp2
            go_roundw
            case rel => exact ⟨kd, 1 + 1, rfl, by go_num, by omega, HKD.out ▸ HK.out.next (by omega) (HKD.out ▸ hlt) (HKD.out ▸ hl2), HLL.out, HP.out, HU.out, H⟩
            case measure => simp [intOf]
          · rw [decide_eq_false hl2]
            refine wpL_take hOps hS (v := ?vOp616) rfl (fun _ _ _ h => h) (yl rfl ?yOp616) ?_
            case yOp616 => (intro w hw; go_simp; first | done | rfl)
            simp only [Act.put, Act.eval, List.setIfInBounds_toArray, List.set_cons_zero, List.set_cons_succ, Array.getD_eq_getD_getElem?, List.getElem?_toArray, List.getElem?_cons_zero, List.getElem?_cons_succ, Option.getD_some]
            refine wpL_end ?_
            clear hOps hS ops
            go_wp2
            go_roundw
            case rel => exact ⟨m, 1 + 1, rfl, by go_num, by omega, HK.out.keep (fun _ => HKD.out ▸ hl2), HLL.out, HP.out, HU.out, H⟩
            case measure => simp [intOf]
        · refine wpL_begin 24 (At w0 (raw p #[.int .i64 most, .slice a l.length cap, .int .u64 nx] 58 :: lrow 60 3 (thC .i64) (.slice a l.length cap) l :: L)) [(0, true), (1, true), (2, true), (3, true), (4, true), (5, true), (6, true), (7, true), (8, true), (9, true), (10, true), (11, true), (12, true), (13, true), (14, true), (15, true), (16, true), (17, true), (18, true), (19, true), (20, true), (21, true), (22, false), (23, true)] rfl (by kernel_rfl) (by kernel_rfl) ((H.drew)) ?_
          intro ops hOps hS
          replace H := H.drew
          refine wpL_take hOps hS rfl (fun _ _ _ h => h) (yl_move rfl _ rfl) ?_
          simp only [Act.put, Act.eval, List.setIfInBounds_toArray, List.set_cons_zero, List.set_cons_succ, Array.getD_eq_getD_getElem?, List.getElem?_toArray, List.getElem?_cons_zero, List.getElem?_cons_succ, Option.getD_some]
          refine wpL_take hOps hS rfl (fun _ _ _ h => h) (yl_move rfl _ rfl) ?_
          simp only [Act.put, Act.eval, List.setIfInBounds_toArray, List.set_cons_zero, List.set_cons_succ, Array.getD_eq_getD_getElem?, List.getElem?_toArray, List.getElem?_cons_zero, List.getElem?_cons_succ, Option.getD_some]
          refine wpL_take hOps hS rfl (fun _ _ _ h => h) (yl_nil rfl _ rfl _ rfl) ?_
          simp only [Act.put, Act.eval, List.setIfInBounds_toArray, List.set_cons_zero, List.set_cons_succ, Array.getD_eq_getD_getElem?, List.getElem?_toArray, List.getElem?_cons_zero, List.getElem?_cons_succ, Option.getD_some]
          refine wpL_take hOps hS (v := ?vOp630) rfl (fun _ _ _ h => h) (yl rfl ?yOp630) ?_
          case yOp630 => (intro w hw; go_simp; first | done | rfl)
          simp only [Act.put, Act.eval, List.setIfInBounds_toArray, List.set_cons_zero, List.set_cons_succ, Array.getD_eq_getD_getElem?, List.getElem?_toArray, List.getElem?_cons_zero, List.getElem?_cons_succ, Option.getD_some]
          refine wpL_take hOps hS rfl (fun _ _ _ h => h) (yl_get rfl _ _ rfl rfl (by kernel_rfl) (fun w hw => raw_at (At.heap hw 0 rfl) rfl)) ?_
          simp only [Act.put, Act.eval, List.setIfInBounds_toArray, List.set_cons_zero, List.set_cons_succ, Array.getD_eq_getD_getElem?, List.getElem?_toArray, List.getElem?_cons_zero, List.getElem?_cons_succ, Option.getD_some]
          refine wpL_take hOps hS (v := ?vOp634) rfl (fun _ _ _ h => h) (yl rfl ?yOp634) ?_
          case yOp634 => (intro w hw; go_simp; first | done | rfl)
          simp only [Act.put, Act.eval, List.setIfInBounds_toArray, List.set_cons_zero, List.set_cons_succ, Array.getD_eq_getD_getElem?, List.getElem?_toArray, List.getElem?_cons_zero, List.getElem?_cons_succ, Option.getD_some]
          refine wpL_take hOps hS (v := ?vOp636) rfl (fun _ _ _ h => h) (yl rfl ?yOp636) ?_
          case yOp636 => (intro w hw; go_simp; first | done | rfl)
          simp only [Act.put, Act.eval, List.setIfInBounds_toArray, List.set_cons_zero, List.set_cons_succ, Array.getD_eq_getD_getElem?, List.getElem?_toArray, List.getElem?_cons_zero, List.getElem?_cons_succ, Option.getD_some]
          first | rw [show decide (kd < l.length) = false from decide_eq_false hlt] | skip
          refine wpL_take hOps hS rfl (fun _ _ _ h => h) (yl_move rfl _ rfl) ?_
          simp only [Act.put, Act.eval, List.setIfInBounds_toArray, List.set_cons_zero, List.set_cons_succ, Array.getD_eq_getD_getElem?, List.getElem?_toArray, List.getElem?_cons_zero, List.getElem?_cons_succ, Option.getD_some]
          refine wpL_take hOps hS rfl (fun _ _ _ h => h) (yn rfl) ?_
          simp only [Act.put, Act.eval, List.setIfInBounds_toArray, List.set_cons_zero, List.set_cons_succ, Array.getD_eq_getD_getElem?, List.getElem?_toArray, List.getElem?_cons_zero, List.getElem?_cons_succ, Option.getD_some]
          refine wpL_take hOps hS rfl (fun _ _ _ h => h) (yn rfl) ?_
          simp only [Act.put, Act.eval, List.setIfInBounds_toArray, List.set_cons_zero, List.set_cons_succ, Array.getD_eq_getD_getElem?, List.getElem?_toArray, List.getElem?_cons_zero, List.getElem?_cons_succ, Option.getD_some]
          refine wpL_take hOps hS rfl (fun _ _ _ h => h) (yn rfl) ?_
          simp only [Act.put, Act.eval, List.setIfInBounds_toArray, List.set_cons_zero, List.set_cons_succ, Array.getD_eq_getD_getElem?, List.getElem?_toArray, List.getElem?_cons_zero, List.getElem?_cons_succ, Option.getD_some]
          refine wpL_take hOps hS rfl (fun _ _ _ h => h) (yn rfl) ?_
          simp only [Act.put, Act.eval, List.setIfInBounds_toArray, List.set_cons_zero, List.set_cons_succ, Array.getD_eq_getD_getElem?, List.getElem?_toArray, List.getElem?_cons_zero, List.getElem?_cons_succ, Option.getD_some]
          refine wpL_take hOps hS rfl (fun _ _ _ h => h) (yn rfl) ?_
          simp only [Act.put, Act.eval, List.setIfInBounds_toArray, List.set_cons_zero, List.set_cons_succ, Array.getD_eq_getD_getElem?, List.getElem?_toArray, List.getElem?_cons_zero, List.getElem?_cons_succ, Option.getD_some]
          refine wpL_take hOps hS rfl (fun _ _ _ h => h) (yn rfl) ?_
          simp only [Act.put, Act.eval, List.setIfInBounds_toArray, List.set_cons_zero, List.set_cons_succ, Array.getD_eq_getD_getElem?, List.getElem?_toArray, List.getElem?_cons_zero, List.getElem?_cons_succ, Option.getD_some]
          refine wpL_take hOps hS rfl (fun _ _ _ h => h) (yn rfl) ?_
          simp only [Act.put, Act.eval, List.setIfInBounds_toArray, List.set_cons_zero, List.set_cons_succ, Array.getD_eq_getD_getElem?, List.getElem?_toArray, List.getElem?_cons_zero, List.getElem?_cons_succ, Option.getD_some]
          refine wpL_take hOps hS rfl (fun _ _ _ h => h) (yn rfl) ?_
          simp only [Act.put, Act.eval, List.setIfInBounds_toArray, List.set_cons_zero, List.set_cons_succ, Array.getD_eq_getD_getElem?, List.getElem?_toArray, List.getElem?_cons_zero, List.getElem?_cons_succ, Option.getD_some]
          refine wpL_take hOps hS rfl (fun _ _ _ h => h) (yn rfl) ?_
          simp only [Act.put, Act.eval, List.setIfInBounds_toArray, List.set_cons_zero, List.set_cons_succ, Array.getD_eq_getD_getElem?, List.getElem?_toArray, List.getElem?_cons_zero, List.getElem?_cons_succ, Option.getD_some]
          refine wpL_take hOps hS rfl (fun _ _ _ h => h) (yn rfl) ?_
          simp only [Act.put, Act.eval, List.setIfInBounds_toArray, List.set_cons_zero, List.set_cons_succ, Array.getD_eq_getD_getElem?, List.getElem?_toArray, List.getElem?_cons_zero, List.getElem?_cons_succ, Option.getD_some]
          refine wpL_take hOps hS rfl (fun _ _ _ h => h) (yn rfl) ?_
          simp only [Act.put, Act.eval, List.setIfInBounds_toArray, List.set_cons_zero, List.set_cons_succ, Array.getD_eq_getD_getElem?, List.getElem?_toArray, List.getElem?_cons_zero, List.getElem?_cons_succ, Option.getD_some]
          refine wpL_take hOps hS rfl (fun _ _ _ h => h) (yn rfl) ?_
          simp only [Act.put, Act.eval, List.setIfInBounds_toArray, List.set_cons_zero, List.set_cons_succ, Array.getD_eq_getD_getElem?, List.getElem?_toArray, List.getElem?_cons_zero, List.getElem?_cons_succ, Option.getD_some]
          refine wpL_take hOps hS rfl (fun _ _ _ h => h) (yn rfl) ?_
          simp only [Act.put, Act.eval, List.setIfInBounds_toArray, List.set_cons_zero, List.set_cons_succ, Array.getD_eq_getD_getElem?, List.getElem?_toArray, List.getElem?_cons_zero, List.getElem?_cons_succ, Option.getD_some]
          refine wpL_take hOps hS rfl (fun _ _ _ h => h) (yn rfl) ?_
          simp only [Act.put, Act.eval, List.setIfInBounds_toArray, List.set_cons_zero, List.set_cons_succ, Array.getD_eq_getD_getElem?, List.getElem?_toArray, List.getElem?_cons_zero, List.getElem?_cons_succ, Option.getD_some]
          refine wpL_skip hOps hS rfl rfl ?_
          simp only [Act.put, Act.eval, List.setIfInBounds_toArray, List.set_cons_zero, List.set_cons_succ, Array.getD_eq_getD_getElem?, List.getElem?_toArray, List.getElem?_cons_zero, List.getElem?_cons_succ, Option.getD_some]
          refine wpL_take hOps hS (v := ?vOp671) rfl (fun _ _ _ h => h) (yl rfl ?yOp671) ?_
          case yOp671 => (intro w hw; go_simp; first | done | rfl)
          simp only [Act.put, Act.eval, List.setIfInBounds_toArray, List.set_cons_zero, List.set_cons_succ, Array.getD_eq_getD_getElem?, List.getElem?_toArray, List.getElem?_cons_zero, List.getElem?_cons_succ, Option.getD_some]
          refine wpL_end ?_
          clear hOps hS ops
          go_wp2
          go_roundw
          case rel => exact ⟨m, 1 + 1, rfl, by go_num, by omega, HK.out.keep (fun h => absurd (HKD.out ▸ h) hlt), HLL.out, HP.out, HU.out, H⟩
          case measure => simp [intOf]
      · by_cases he : m = j
        · have HS := Lib.hid (HK.out.stop HU.out he)
          subst he
          go_wp2_with fail
          first | go_ret | go_end0 | (refine bodyPost_ret (results_none rfl _ _ _) rfl ?_)
          exact ⟨_, l, rfl, HP.out, HS.out, H⟩
        · obtain ⟨hs1, hs2, hs3, hs4⟩ := HK.out.step HU.out he
          have HS := Lib.hid hs4
          have he2 : ¬ (m : Int) = (j : Int) := by omega
          clear hs4 he
          go_wp2_with fail
          refine (swapI_c H j m (by omega) (by omega)).mono ?_; rintro e w' ⟨v, rfl, H⟩
          go_wp2
          go_roundw
          case rel => exact ⟨m, sw l j m, rfl, by have := HLL.out; omega, by rw [sw_length]; exact HLL.out, (sw_perm hs1 hs2).trans HP.out, HS.out, H⟩
          case measure => have := HLL.out; simp [intOf]; omega
def DownRU (w0 : World) (L : List SP) (p : Nat) (most nx : Int) (a : Option Addr) (cap : Nat) (l0 : List Thing) (j : Nat) (l : List Thing) (w : World) : Prop :=
  l.length = l0.length ∧ l.Perm l0 ∧ DownOK l j ∧ At w0 (raw p #[.int .i64 most, .slice a l.length cap, .int .u64 nx] 65 :: lrow 67 3 (thC .u64) (.slice a l.length cap) l :: L) w
set_option maxRecDepth 10000 in
set_option maxHeartbeats 2000000 in
theorem downU_c {w0 w : World} {L : List SP} {p : Nat} {most nx : Int} {a : Option Addr} {cap : Nat} {l0 : List Thing}
    (H : At w0 (hdU p most nx a l0.length cap :: lrow 67 3 (thC .u64) (.slice a l0.length cap) l0 :: L) w) (hl : l0.length ≤ 1000000) (hU : DownOK l0 0) :
    Calls Try.prog 29 #[.pointer (some ⟨p, 0, none⟩), .int .i64 0] w fun e w' => ∃ v l, e = .returned v ∧ l.Perm l0 ∧ HeapOK l ∧ At w0 (hdU p most nx a l.length cap :: lrow 67 3 (thC .u64) (.slice a l.length cap) l :: L) w' := by
  unfold hdU at H ⊢
  go_enter Try.func29, Try.ntmps29
  go_wp2_with fail
  go_loopw [1] (fun i wr => ∃ (j : Nat) (l : List Thing), i = .int .i64 j ∧ (j ≤ l0.length) ∧ DownRU w0 L p most nx a cap l0 j l wr) (fun i _ => l0.length - (intOf i).toNat)
  case atStart => exact ⟨0, l0, rfl, by omega, rfl, List.Perm.refl _, hU, H⟩
  case round =>
    clear H hU
    obtain ⟨j, l, rfl, hj, hll, hp, hU, H⟩ := hrel
    have HU := Lib.hid hU
    have HP := Lib.hid hp
    have HLL := Lib.hid hll
    have hj6 : (j : Int) ≤ 1000000 := by omega
    clear hU hp hll
    go_wp2_with fail
    go_loopw [4, 15] (fun m c wr => ∃ mm cc : Nat, m = .int .i64 mm ∧ c = .int .i64 cc ∧ cc ≤ 2 ∧ KidR l j cc mm ∧ DownRU w0 L p most nx a cap l0 j l wr) (fun _ c _ => 2 - (intOf c).toNat)
    case atStart => exact ⟨j, 0, rfl, rfl, by omega, ⟨.inl rfl, fun k h => absurd h (by omega)⟩, HLL.out, HP.out, HU.out, H⟩
    case round =>
      clear H
      obtain ⟨m, c, rfl, rfl, hc, hK2, hx1, hx2, hx3, H⟩ := hrel
      clear hx1 hx2 hx3
      have HK := Lib.hid hK2
      clear hK2
      rcases (by omega : c = 0 ∨ c = 1 ∨ c = 2) with rfl | rfl | rfl
      · obtain ⟨kd, hkd⟩ : ∃ kd : Nat, kd = 2 * j + 1 + 0 := ⟨_, rfl⟩
        have HKD := Lib.hid hkd
        have hkd2 : 2 * (j : Int) + 1 = (kd : Int) := by omega
        clear hkd
        have hix0 := index0
        have hix1 := index1
        go_wp2_with fail
        clear hix0 hix1
        clear hkd2
        by_cases hlt : kd < l.length
        · have hmj : m < l.length := by
            rcases HK.out.1 with e | e
            · have := HKD.out; omega
            · exact e.1
          obtain ⟨gb, ob, rfl⟩ := lrow_place H 1 rfl (by omega)
          have Hk := Lib.hid (g_get hlt)
          have Hm := Lib.hid (g_get hmj)
          refine wpL_begin 24 (At w0 (raw p #[.int .i64 most, .slice (some ⟨gb, ob, none⟩) l.length cap, .int .u64 nx] 65 :: lrow 67 3 (thC .u64) (.slice (some ⟨gb, ob, none⟩) l.length cap) l :: L)) [(0, true), (1, true), (2, true), (3, true), (4, true), (5, true), (6, true), (7, true), (8, true), (9, true), (10, true), (11, true), (12, true), (13, true), (14, true), (15, true), (16, true), (17, true), (18, true), (19, true), (20, true), (21, true), (22, false), (23, true)] rfl (by kernel_rfl) (by kernel_rfl) ((H.drew)) ?_
          intro ops hOps hS
          replace H := H.drew
          refine wpL_take hOps hS rfl (fun _ _ _ h => h) (yl_move rfl _ rfl) ?_
          simp only [Act.put, Act.eval, List.setIfInBounds_toArray, List.set_cons_zero, List.set_cons_succ, Array.getD_eq_getD_getElem?, List.getElem?_toArray, List.getElem?_cons_zero, List.getElem?_cons_succ, Option.getD_some]
          refine wpL_take hOps hS rfl (fun _ _ _ h => h) (yl_move rfl _ rfl) ?_
          simp only [Act.put, Act.eval, List.setIfInBounds_toArray, List.set_cons_zero, List.set_cons_succ, Array.getD_eq_getD_getElem?, List.getElem?_toArray, List.getElem?_cons_zero, List.getElem?_cons_succ, Option.getD_some]
          refine wpL_take hOps hS rfl (fun _ _ _ h => h) (yl_nil rfl _ rfl _ rfl) ?_
          simp only [Act.put, Act.eval, List.setIfInBounds_toArray, List.set_cons_zero, List.set_cons_succ, Array.getD_eq_getD_getElem?, List.getElem?_toArray, List.getElem?_cons_zero, List.getElem?_cons_succ, Option.getD_some]
          refine wpL_take hOps hS (v := ?vOp687) rfl (fun _ _ _ h => h) (yl rfl ?yOp687) ?_
          case yOp687 => (intro w hw; go_simp; first | done | rfl)
          simp only [Act.put, Act.eval, List.setIfInBounds_toArray, List.set_cons_zero, List.set_cons_succ, Array.getD_eq_getD_getElem?, List.getElem?_toArray, List.getElem?_cons_zero, List.getElem?_cons_succ, Option.getD_some]
          refine wpL_take hOps hS rfl (fun _ _ _ h => h) (yl_get rfl _ _ rfl rfl (by kernel_rfl) (fun w hw => raw_at (At.heap hw 0 rfl) rfl)) ?_
          simp only [Act.put, Act.eval, List.setIfInBounds_toArray, List.set_cons_zero, List.set_cons_succ, Array.getD_eq_getD_getElem?, List.getElem?_toArray, List.getElem?_cons_zero, List.getElem?_cons_succ, Option.getD_some]
          refine wpL_take hOps hS (v := ?vOp691) rfl (fun _ _ _ h => h) (yl rfl ?yOp691) ?_
          case yOp691 => (intro w hw; go_simp; first | done | rfl)
          simp only [Act.put, Act.eval, List.setIfInBounds_toArray, List.set_cons_zero, List.set_cons_succ, Array.getD_eq_getD_getElem?, List.getElem?_toArray, List.getElem?_cons_zero, List.getElem?_cons_succ, Option.getD_some]
          refine wpL_take hOps hS (v := ?vOp693) rfl (fun _ _ _ h => h) (yl rfl ?yOp693) ?_
          case yOp693 => (intro w hw; go_simp; first | done | rfl)
          simp only [Act.put, Act.eval, List.setIfInBounds_toArray, List.set_cons_zero, List.set_cons_succ, Array.getD_eq_getD_getElem?, List.getElem?_toArray, List.getElem?_cons_zero, List.getElem?_cons_succ, Option.getD_some]
          first | rw [show decide (kd < l.length) = true from decide_eq_true hlt] | skip
          refine wpL_take hOps hS rfl (fun _ _ _ h => h) (yl_move rfl _ rfl) ?_
          simp only [Act.put, Act.eval, List.setIfInBounds_toArray, List.set_cons_zero, List.set_cons_succ, Array.getD_eq_getD_getElem?, List.getElem?_toArray, List.getElem?_cons_zero, List.getElem?_cons_succ, Option.getD_some]
          refine wpL_take hOps hS rfl (fun _ _ _ h => h) (yl_move rfl _ rfl) ?_
          simp only [Act.put, Act.eval, List.setIfInBounds_toArray, List.set_cons_zero, List.set_cons_succ, Array.getD_eq_getD_getElem?, List.getElem?_toArray, List.getElem?_cons_zero, List.getElem?_cons_succ, Option.getD_some]
          refine wpL_take hOps hS rfl (fun _ _ _ h => h) (yl_nil rfl _ rfl _ rfl) ?_
          simp only [Act.put, Act.eval, List.setIfInBounds_toArray, List.set_cons_zero, List.set_cons_succ, Array.getD_eq_getD_getElem?, List.getElem?_toArray, List.getElem?_cons_zero, List.getElem?_cons_succ, Option.getD_some]
          refine wpL_take hOps hS (v := ?vOp704) rfl (fun _ _ _ h => h) (yl rfl ?yOp704) ?_
          case yOp704 => (intro w hw; go_simp; first | done | rfl)
          simp only [Act.put, Act.eval, List.setIfInBounds_toArray, List.set_cons_zero, List.set_cons_succ, Array.getD_eq_getD_getElem?, List.getElem?_toArray, List.getElem?_cons_zero, List.getElem?_cons_succ, Option.getD_some]
          refine wpL_take hOps hS rfl (fun _ _ _ h => h) (yl_get rfl _ _ rfl rfl (by kernel_rfl) (fun w hw => raw_at (At.heap hw 0 rfl) rfl)) ?_
          simp only [Act.put, Act.eval, List.setIfInBounds_toArray, List.set_cons_zero, List.set_cons_succ, Array.getD_eq_getD_getElem?, List.getElem?_toArray, List.getElem?_cons_zero, List.getElem?_cons_succ, Option.getD_some]
          refine wpL_take hOps hS rfl (fun _ _ _ h => h) (yl_move rfl _ rfl) ?_
          simp only [Act.put, Act.eval, List.setIfInBounds_toArray, List.set_cons_zero, List.set_cons_succ, Array.getD_eq_getD_getElem?, List.getElem?_toArray, List.getElem?_cons_zero, List.getElem?_cons_succ, Option.getD_some]
          refine wpL_take hOps hS (v := ?vOp711) rfl (fun _ _ _ h => h) (yl rfl ?yOp711) ?_
          case yOp711 => (intro w hw; go_simp; first | done | rfl)
          simp only [Act.put, Act.eval, List.setIfInBounds_toArray, List.set_cons_zero, List.set_cons_succ, Array.getD_eq_getD_getElem?, List.getElem?_toArray, List.getElem?_cons_zero, List.getElem?_cons_succ, Option.getD_some]
          refine wpL_take hOps hS rfl (fun _ _ _ h => h) (yl_mid rfl _ _ rfl rfl (thC .u64 (g l kd)) (by kernel_rfl) (by kernel_rfl) (fun w hw => lrow_at el_thU hw 1 rfl Hk.out)) ?_
          simp only [Act.put, Act.eval, List.setIfInBounds_toArray, List.set_cons_zero, List.set_cons_succ, Array.getD_eq_getD_getElem?, List.getElem?_toArray, List.getElem?_cons_zero, List.getElem?_cons_succ, Option.getD_some]
          refine wpL_take hOps hS rfl (fun _ _ _ h => h) (yl_move rfl _ rfl) ?_
          simp only [Act.put, Act.eval, List.setIfInBounds_toArray, List.set_cons_zero, List.set_cons_succ, Array.getD_eq_getD_getElem?, List.getElem?_toArray, List.getElem?_cons_zero, List.getElem?_cons_succ, Option.getD_some]
          refine wpL_take hOps hS rfl (fun _ _ _ h => h) (yl_nil rfl _ rfl _ rfl) ?_
          simp only [Act.put, Act.eval, List.setIfInBounds_toArray, List.set_cons_zero, List.set_cons_succ, Array.getD_eq_getD_getElem?, List.getElem?_toArray, List.getElem?_cons_zero, List.getElem?_cons_succ, Option.getD_some]
          refine wpL_take hOps hS (v := ?vOp721) rfl (fun _ _ _ h => h) (yl rfl ?yOp721) ?_
          case yOp721 => (intro w hw; go_simp; first | done | rfl)
          simp only [Act.put, Act.eval, List.setIfInBounds_toArray, List.set_cons_zero, List.set_cons_succ, Array.getD_eq_getD_getElem?, List.getElem?_toArray, List.getElem?_cons_zero, List.getElem?_cons_succ, Option.getD_some]
          refine wpL_take hOps hS rfl (fun _ _ _ h => h) (yl_get rfl _ _ rfl rfl (by kernel_rfl) (fun w hw => raw_at (At.heap hw 0 rfl) rfl)) ?_
          simp only [Act.put, Act.eval, List.setIfInBounds_toArray, List.set_cons_zero, List.set_cons_succ, Array.getD_eq_getD_getElem?, List.getElem?_toArray, List.getElem?_cons_zero, List.getElem?_cons_succ, Option.getD_some]
          refine wpL_take hOps hS rfl (fun _ _ _ h => h) (yl_move rfl _ rfl) ?_
          simp only [Act.put, Act.eval, List.setIfInBounds_toArray, List.set_cons_zero, List.set_cons_succ, Array.getD_eq_getD_getElem?, List.getElem?_toArray, List.getElem?_cons_zero, List.getElem?_cons_succ, Option.getD_some]
          refine wpL_take hOps hS (v := ?vOp728) rfl (fun _ _ _ h => h) (yl rfl ?yOp728) ?_
          case yOp728 => (intro w hw; go_simp; first | done | rfl)
          simp only [Act.put, Act.eval, List.setIfInBounds_toArray, List.set_cons_zero, List.set_cons_succ, Array.getD_eq_getD_getElem?, List.getElem?_toArray, List.getElem?_cons_zero, List.getElem?_cons_succ, Option.getD_some]
          refine wpL_take hOps hS rfl (fun _ _ _ h => h) (yl_mid rfl _ _ rfl rfl (thC .u64 (g l m)) (by kernel_rfl) (by kernel_rfl) (fun w hw => lrow_at el_thU hw 1 rfl Hm.out)) ?_
          simp only [Act.put, Act.eval, List.setIfInBounds_toArray, List.set_cons_zero, List.set_cons_succ, Array.getD_eq_getD_getElem?, List.getElem?_toArray, List.getElem?_cons_zero, List.getElem?_cons_succ, Option.getD_some]
          refine wpL_next hOps rfl rfl ?_
          intro K hK
          refine wp_call _ _ _ rfl Try.func31 rfl (by kernel_rfl) ?_
          simp only [List.map_toArray, List.map_cons, List.map_nil, Act.eval, Array.getD_eq_getD_getElem?, List.getElem?_toArray, List.getElem?_cons_zero, List.getElem?_cons_succ, Option.getD_some]
          refine (lessU_c H _ _).mono ?_; rintro e w' ⟨rfl, H⟩
          have hS := (H)
          refine hK _ _ hS ?_
          clear hK K
          simp only [Act.put, Act.eval, List.setIfInBounds_toArray, List.set_cons_zero, List.set_cons_succ, Array.getD_eq_getD_getElem?, List.getElem?_toArray, List.getElem?_cons_zero, List.getElem?_cons_succ, Option.getD_some]
          by_cases hl2 : lt (g l kd) (g l m)
          · rw [decide_eq_true hl2]
            refine wpL_take hOps hS (v := ?vOp736) rfl (fun _ _ _ h => h) (yl rfl ?yOp736) ?_
            case yOp736 => (intro w hw; go_simp; first | done | rfl)
            simp only [Act.put, Act.eval, List.setIfInBounds_toArray, List.set_cons_zero, List.set_cons_succ, Array.getD_eq_getD_getElem?, List.getElem?_toArray, List.getElem?_cons_zero, List.getElem?_cons_succ, Option.getD_some]
            refine wpL_end ?_
            clear hOps hS ops
            go_wp2
            go_roundw
            case rel => exact ⟨kd, 0 + 1, rfl, by go_num, by omega, HKD.out ▸ HK.out.next (by omega) (HKD.out ▸ hlt) (HKD.out ▸ hl2), HLL.out, HP.out, HU.out, H⟩
            case measure => simp [intOf]
          · rw [decide_eq_false hl2]
            refine wpL_take hOps hS (v := ?vOp739) rfl (fun _ _ _ h => h) (yl rfl ?yOp739) ?_
            case yOp739 => (intro w hw; go_simp; first | done | rfl)
            simp only [Act.put, Act.eval, List.setIfInBounds_toArray, List.set_cons_zero, List.set_cons_succ, Array.getD_eq_getD_getElem?, List.getElem?_toArray, List.getElem?_cons_zero, List.getElem?_cons_succ, Option.getD_some]
            refine wpL_end ?_
            clear hOps hS ops
            go_wp2
            go_roundw
            case rel => exact ⟨m, 0 + 1, rfl, by go_num, by omega, HK.out.keep (fun _ => HKD.out ▸ hl2), HLL.out, HP.out, HU.out, H⟩
            case measure => simp [intOf]
        · refine wpL_begin 24 (At w0 (raw p #[.int .i64 most, .slice a l.length cap, .int .u64 nx] 65 :: lrow 67 3 (thC .u64) (.slice a l.length cap) l :: L)) [(0, true), (1, true), (2, true), (3, true), (4, true), (5, true), (6, true), (7, true), (8, true), (9, true), (10, true), (11, true), (12, true), (13, true), (14, true), (15, true), (16, true), (17, true), (18, true), (19, true), (20, true), (21, true), (22, false), (23, true)] rfl (by kernel_rfl) (by kernel_rfl) ((H.drew)) ?_
          intro ops hOps hS
          replace H := H.drew
          refine wpL_take hOps hS rfl (fun _ _ _ h => h) (yl_move rfl _ rfl) ?_
          simp only [Act.put, Act.eval, List.setIfInBounds_toArray, List.set_cons_zero, List.set_cons_succ, Array.getD_eq_getD_getElem?, List.getElem?_toArray, List.getElem?_cons_zero, List.getElem?_cons_succ, Option.getD_some]
          refine wpL_take hOps hS rfl (fun _ _ _ h => h) (yl_move rfl _ rfl) ?_
          simp only [Act.put, Act.eval, List.setIfInBounds_toArray, List.set_cons_zero, List.set_cons_succ, Array.getD_eq_getD_getElem?, List.getElem?_toArray, List.getElem?_cons_zero, List.getElem?_cons_succ, Option.getD_some]
          refine wpL_take hOps hS rfl (fun _ _ _ h => h) (yl_nil rfl _ rfl _ rfl) ?_
          simp only [Act.put, Act.eval, List.setIfInBounds_toArray, List.set_cons_zero, List.set_cons_succ, Array.getD_eq_getD_getElem?, List.getElem?_toArray, List.getElem?_cons_zero, List.getElem?_cons_succ, Option.getD_some]
          refine wpL_take hOps hS (v := ?vOp753) rfl (fun _ _ _ h => h) (yl rfl ?yOp753) ?_
          case yOp753 => (intro w hw; go_simp; first | done | rfl)
          simp only [Act.put, Act.eval, List.setIfInBounds_toArray, List.set_cons_zero, List.set_cons_succ, Array.getD_eq_getD_getElem?, List.getElem?_toArray, List.getElem?_cons_zero, List.getElem?_cons_succ, Option.getD_some]
          refine wpL_take hOps hS rfl (fun _ _ _ h => h) (yl_get rfl _ _ rfl rfl (by kernel_rfl) (fun w hw => raw_at (At.heap hw 0 rfl) rfl)) ?_
          simp only [Act.put, Act.eval, List.setIfInBounds_toArray, List.set_cons_zero, List.set_cons_succ, Array.getD_eq_getD_getElem?, List.getElem?_toArray, List.getElem?_cons_zero, List.getElem?_cons_succ, Option.getD_some]
          refine wpL_take hOps hS (v := ?vOp757) rfl (fun _ _ _ h => h) (yl rfl ?yOp757) ?_
          case yOp757 => (intro w hw; go_simp; first | done | rfl)
          simp only [Act.put, Act.eval, List.setIfInBounds_toArray, List.set_cons_zero, List.set_cons_succ, Array.getD_eq_getD_getElem?, List.getElem?_toArray, List.getElem?_cons_zero, List.getElem?_cons_succ, Option.getD_some]
          refine wpL_take hOps hS (v := ?vOp759) rfl (fun _ _ _ h => h) (yl rfl ?yOp759) ?_
          case yOp759 => (intro w hw; go_simp; first | done | rfl)
          simp only [Act.put, Act.eval, List.setIfInBounds_toArray, List.set_cons_zero, List.set_cons_succ, Array.getD_eq_getD_getElem?, List.getElem?_toArray, List.getElem?_cons_zero, List.getElem?_cons_succ, Option.getD_some]
          first | rw [show decide (kd < l.length) = false from decide_eq_false hlt] | skip
          refine wpL_take hOps hS rfl (fun _ _ _ h => h) (yl_move rfl _ rfl) ?_
          simp only [Act.put, Act.eval, List.setIfInBounds_toArray, List.set_cons_zero, List.set_cons_succ, Array.getD_eq_getD_getElem?, List.getElem?_toArray, List.getElem?_cons_zero, List.getElem?_cons_succ, Option.getD_some]
          refine wpL_take hOps hS rfl (fun _ _ _ h => h) (yn rfl) ?_
          simp only [Act.put, Act.eval, List.setIfInBounds_toArray, List.set_cons_zero, List.set_cons_succ, Array.getD_eq_getD_getElem?, List.getElem?_toArray, List.getElem?_cons_zero, List.getElem?_cons_succ, Option.getD_some]
          refine wpL_take hOps hS rfl (fun _ _ _ h => h) (yn rfl) ?_
          simp only [Act.put, Act.eval, List.setIfInBounds_toArray, List.set_cons_zero, List.set_cons_succ, Array.getD_eq_getD_getElem?, List.getElem?_toArray, List.getElem?_cons_zero, List.getElem?_cons_succ, Option.getD_some]
          refine wpL_take hOps hS rfl (fun _ _ _ h => h) (yn rfl) ?_
          simp only [Act.put, Act.eval, List.setIfInBounds_toArray, List.set_cons_zero, List.set_cons_succ, Array.getD_eq_getD_getElem?, List.getElem?_toArray, List.getElem?_cons_zero, List.getElem?_cons_succ, Option.getD_some]
          refine wpL_take hOps hS rfl (fun _ _ _ h => h) (yn rfl) ?_
          simp only [Act.put, Act.eval, List.setIfInBounds_toArray, List.set_cons_zero, List.set_cons_succ, Array.getD_eq_getD_getElem?, List.getElem?_toArray, List.getElem?_cons_zero, List.getElem?_cons_succ, Option.getD_some]
          refine wpL_take hOps hS rfl (fun _ _ _ h => h) (yn rfl) ?_
          simp only [Act.put, Act.eval, List.setIfInBounds_toArray, List.set_cons_zero, List.set_cons_succ, Array.getD_eq_getD_getElem?, List.getElem?_toArray, List.getElem?_cons_zero, List.getElem?_cons_succ, Option.getD_some]
          refine wpL_take hOps hS rfl (fun _ _ _ h => h) (yn rfl) ?_
          simp only [Act.put, Act.eval, List.setIfInBounds_toArray, List.set_cons_zero, List.set_cons_succ, Array.getD_eq_getD_getElem?, List.getElem?_toArray, List.getElem?_cons_zero, List.getElem?_cons_succ, Option.getD_some]
          refine wpL_take hOps hS rfl (fun _ _ _ h => h) (yn rfl) ?_
          simp only [Act.put, Act.eval, List.setIfInBounds_toArray, List.set_cons_zero, List.set_cons_succ, Array.getD_eq_getD_getElem?, List.getElem?_toArray, List.getElem?_cons_zero, List.getElem?_cons_succ, Option.getD_some]
          refine wpL_take hOps hS rfl (fun _ _ _ h => h) (yn rfl) ?_
          simp only [Act.put, Act.eval, List.setIfInBounds_toArray, List.set_cons_zero, List.set_cons_succ, Array.getD_eq_getD_getElem?, List.getElem?_toArray, List.getElem?_cons_zero, List.getElem?_cons_succ, Option.getD_some]
          refine wpL_take hOps hS rfl (fun _ _ _ h => h) (yn rfl) ?_
          simp only [Act.put, Act.eval, List.setIfInBounds_toArray, List.set_cons_zero, List.set_cons_succ, Array.getD_eq_getD_getElem?, List.getElem?_toArray, List.getElem?_cons_zero, List.getElem?_cons_succ, Option.getD_some]
          refine wpL_take hOps hS rfl (fun _ _ _ h => h) (yn rfl) ?_
          simp only [Act.put, Act.eval, List.setIfInBounds_toArray, List.set_cons_zero, List.set_cons_succ, Array.getD_eq_getD_getElem?, List.getElem?_toArray, List.getElem?_cons_zero, List.getElem?_cons_succ, Option.getD_some]
          refine wpL_take hOps hS rfl (fun _ _ _ h => h) (yn rfl) ?_
          simp only [Act.put, Act.eval, List.setIfInBounds_toArray, List.set_cons_zero, List.set_cons_succ, Array.getD_eq_getD_getElem?, List.getElem?_toArray, List.getElem?_cons_zero, List.getElem?_cons_succ, Option.getD_some]
          refine wpL_take hOps hS rfl (fun _ _ _ h => h) (yn rfl) ?_
          simp only [Act.put, Act.eval, List.setIfInBounds_toArray, List.set_cons_zero, List.set_cons_succ, Array.getD_eq_getD_getElem?, List.getElem?_toArray, List.getElem?_cons_zero, List.getElem?_cons_succ, Option.getD_some]
          refine wpL_take hOps hS rfl (fun _ _ _ h => h) (yn rfl) ?_
          simp only [Act.put, Act.eval, List.setIfInBounds_toArray, List.set_cons_zero, List.set_cons_succ, Array.getD_eq_getD_getElem?, List.getElem?_toArray, List.getElem?_cons_zero, List.getElem?_cons_succ, Option.getD_some]
          refine wpL_take hOps hS rfl (fun _ _ _ h => h) (yn rfl) ?_
          simp only [Act.put, Act.eval, List.setIfInBounds_toArray, List.set_cons_zero, List.set_cons_succ, Array.getD_eq_getD_getElem?, List.getElem?_toArray, List.getElem?_cons_zero, List.getElem?_cons_succ, Option.getD_some]
          refine wpL_skip hOps hS rfl rfl ?_
          simp only [Act.put, Act.eval, List.setIfInBounds_toArray, List.set_cons_zero, List.set_cons_succ, Array.getD_eq_getD_getElem?, List.getElem?_toArray, List.getElem?_cons_zero, List.getElem?_cons_succ, Option.getD_some]
          refine wpL_take hOps hS (v := ?vOp794) rfl (fun _ _ _ h => h) (yl rfl ?yOp794) ?_
          case yOp794 => (intro w hw; go_simp; first | done | rfl)
          simp only [Act.put, Act.eval, List.setIfInBounds_toArray, List.set_cons_zero, List.set_cons_succ, Array.getD_eq_getD_getElem?, List.getElem?_toArray, List.getElem?_cons_zero, List.getElem?_cons_succ, Option.getD_some]
          refine wpL_end ?_
          clear hOps hS ops
          go_wp2
          go_roundw
          case rel => exact ⟨m, 0 + 1, rfl, by go_num, by omega, HK.out.keep (fun h => absurd (HKD.out ▸ h) hlt), HLL.out, HP.out, HU.out, H⟩
          case measure => simp [intOf]
      · obtain ⟨kd, hkd⟩ : ∃ kd : Nat, kd = 2 * j + 1 + 1 := ⟨_, rfl⟩
        have HKD := Lib.hid hkd
        have hkd2 : 2 * (j : Int) + 2 = (kd : Int) := by omega
        clear hkd
        have hix0 := index0
        have hix1 := index1
        go_wp2_with fail
        clear hix0 hix1
        clear hkd2
        by_cases hlt : kd < l.length
        · have hmj : m < l.length := by
            rcases HK.out.1 with e | e
            · have := HKD.out; omega
            · exact e.1
          obtain ⟨gb, ob, rfl⟩ := lrow_place H 1 rfl (by omega)
          have Hk := Lib.hid (g_get hlt)
          have Hm := Lib.hid (g_get hmj)
          refine wpL_begin 24 (At w0 (raw p #[.int .i64 most, .slice (some ⟨gb, ob, none⟩) l.length cap, .int .u64 nx] 65 :: lrow 67 3 (thC .u64) (.slice (some ⟨gb, ob, none⟩) l.length cap) l :: L)) [(0, true), (1, true), (2, true), (3, true), (4, true), (5, true), (6, true), (7, true), (8, true), (9, true), (10, true), (11, true), (12, true), (13, true), (14, true), (15, true), (16, true), (17, true), (18, true), (19, true), (20, true), (21, true), (22, false), (23, true)] rfl (by kernel_rfl) (by kernel_rfl) ((H.drew)) ?_
          intro ops hOps hS
          replace H := H.drew
          refine wpL_take hOps hS rfl (fun _ _ _ h => h) (yl_move rfl _ rfl) ?_
          simp only [Act.put, Act.eval, List.setIfInBounds_toArray, List.set_cons_zero, List.set_cons_succ, Array.getD_eq_getD_getElem?, List.getElem?_toArray, List.getElem?_cons_zero, List.getElem?_cons_succ, Option.getD_some]
          refine wpL_take hOps hS rfl (fun _ _ _ h => h) (yl_move rfl _ rfl) ?_
          simp only [Act.put, Act.eval, List.setIfInBounds_toArray, List.set_cons_zero, List.set_cons_succ, Array.getD_eq_getD_getElem?, List.getElem?_toArray, List.getElem?_cons_zero, List.getElem?_cons_succ, Option.getD_some]
          refine wpL_take hOps hS rfl (fun _ _ _ h => h) (yl_nil rfl _ rfl _ rfl) ?_
          simp only [Act.put, Act.eval, List.setIfInBounds_toArray, List.set_cons_zero, List.set_cons_succ, Array.getD_eq_getD_getElem?, List.getElem?_toArray, List.getElem?_cons_zero, List.getElem?_cons_succ, Option.getD_some]
          refine wpL_take hOps hS (v := ?vOp809) rfl (fun _ _ _ h => h) (yl rfl ?yOp809) ?_
          case yOp809 => (intro w hw; go_simp; first | done | rfl)
          simp only [Act.put, Act.eval, List.setIfInBounds_toArray, List.set_cons_zero, List.set_cons_succ, Array.getD_eq_getD_getElem?, List.getElem?_toArray, List.getElem?_cons_zero, List.getElem?_cons_succ, Option.getD_some]
          refine wpL_take hOps hS rfl (fun _ _ _ h => h) (yl_get rfl _ _ rfl rfl (by kernel_rfl) (fun w hw => raw_at (At.heap hw 0 rfl) rfl)) ?_
          simp only [Act.put, Act.eval, List.setIfInBounds_toArray, List.set_cons_zero, List.set_cons_succ, Array.getD_eq_getD_getElem?, List.getElem?_toArray, List.getElem?_cons_zero, List.getElem?_cons_succ, Option.getD_some]
          refine wpL_take hOps hS (v := ?vOp813) rfl (fun _ _ _ h => h) (yl rfl ?yOp813) ?_
          case yOp813 => (intro w hw; go_simp; first | done | rfl)
          simp only [Act.put, Act.eval, List.setIfInBounds_toArray, List.set_cons_zero, List.set_cons_succ, Array.getD_eq_getD_getElem?, List.getElem?_toArray, List.getElem?_cons_zero, List.getElem?_cons_succ, Option.getD_some]
          refine wpL_take hOps hS (v := ?vOp815) rfl (fun _ _ _ h => h) (yl rfl ?yOp815) ?_
          case yOp815 => (intro w hw; go_simp; first | done | rfl)
          simp only [Act.put, Act.eval, List.setIfInBounds_toArray, List.set_cons_zero, List.set_cons_succ, Array.getD_eq_getD_getElem?, List.getElem?_toArray, List.getElem?_cons_zero, List.getElem?_cons_succ, Option.getD_some]
          first | rw [show decide (kd < l.length) = true from decide_eq_true hlt] | skip
          refine wpL_take hOps hS rfl (fun _ _ _ h => h) (yl_move rfl _ rfl) ?_
          simp only [Act.put, Act.eval, List.setIfInBounds_toArray, List.set_cons_zero, List.set_cons_succ, Array.getD_eq_getD_getElem?, List.getElem?_toArray, List.getElem?_cons_zero, List.getElem?_cons_succ, Option.getD_some]
          refine wpL_take hOps hS rfl (fun _ _ _ h => h) (yl_move rfl _ rfl) ?_
          simp only [Act.put, Act.eval, List.setIfInBounds_toArray, List.set_cons_zero, List.set_cons_succ, Array.getD_eq_getD_getElem?, List.getElem?_toArray, List.getElem?_cons_zero, List.getElem?_cons_succ, Option.getD_some]
          refine wpL_take hOps hS rfl (fun _ _ _ h => h) (yl_nil rfl _ rfl _ rfl) ?_
          simp only [Act.put, Act.eval, List.setIfInBounds_toArray, List.set_cons_zero, List.set_cons_succ, Array.getD_eq_getD_getElem?, List.getElem?_toArray, List.getElem?_cons_zero, List.getElem?_cons_succ, Option.getD_some]
          refine wpL_take hOps hS (v := ?vOp826) rfl (fun _ _ _ h => h) (yl rfl ?yOp826) ?_
          case yOp826 => (intro w hw; go_simp; first | done | rfl)
          simp only [Act.put, Act.eval, List.setIfInBounds_toArray, List.set_cons_zero, List.set_cons_succ, Array.getD_eq_getD_getElem?, List.getElem?_toArray, List.getElem?_cons_zero, List.getElem?_cons_succ, Option.getD_some]
          refine wpL_take hOps hS rfl (fun _ _ _ h => h) (yl_get rfl _ _ rfl rfl (by kernel_rfl) (fun w hw => raw_at (At.heap hw 0 rfl) rfl)) ?_
          simp only [Act.put, Act.eval, List.setIfInBounds_toArray, List.set_cons_zero, List.set_cons_succ, Array.getD_eq_getD_getElem?, List.getElem?_toArray, List.getElem?_cons_zero, List.getElem?_cons_succ, Option.getD_some]
          refine wpL_take hOps hS rfl (fun _ _ _ h => h) (yl_move rfl _ rfl) ?_
          simp only [Act.put, Act.eval, List.setIfInBounds_toArray, List.set_cons_zero, List.set_cons_succ, Array.getD_eq_getD_getElem?, List.getElem?_toArray, List.getElem?_cons_zero, List.getElem?_cons_succ, Option.getD_some]
          refine wpL_take hOps hS (v := ?vOp833) rfl (fun _ _ _ h => h) (yl rfl ?yOp833) ?_
          case yOp833 => (intro w hw; go_simp; first | done | rfl)
          simp only [Act.put, Act.eval, List.setIfInBounds_toArray, List.set_cons_zero, List.set_cons_succ, Array.getD_eq_getD_getElem?, List.getElem?_toArray, List.getElem?_cons_zero, List.getElem?_cons_succ, Option.getD_some]
          refine wpL_take hOps hS rfl (fun _ _ _ h => h) (yl_mid rfl _ _ rfl rfl (thC .u64 (g l kd)) (by kernel_rfl) (by kernel_rfl) (fun w hw => lrow_at el_thU hw 1 rfl Hk.out)) ?_
          simp only [Act.put, Act.eval, List.setIfInBounds_toArray, List.set_cons_zero, List.set_cons_succ, Array.getD_eq_getD_getElem?, List.getElem?_toArray, List.getElem?_cons_zero, List.getElem?_cons_succ, Option.getD_some]
          refine wpL_take hOps hS rfl (fun _ _ _ h => h) (yl_move rfl _ rfl) ?_
          simp only [Act.put, Act.eval, List.setIfInBounds_toArray, List.set_cons_zero, List.set_cons_succ, Array.getD_eq_getD_getElem?, List.getElem?_toArray, List.getElem?_cons_zero, List.getElem?_cons_succ, Option.getD_some]
          refine wpL_take hOps hS rfl (fun _ _ _ h => h) (yl_nil rfl _ rfl _ rfl) ?_
          simp only [Act.put, Act.eval, List.setIfInBounds_toArray, List.set_cons_zero, List.set_cons_succ, Array.getD_eq_getD_getElem?, List.getElem?_toArray, List.getElem?_cons_zero, List.getElem?_cons_succ, Option.getD_some]
          refine wpL_take hOps hS (v := ?vOp843) rfl (fun _ _ _ h => h) (yl rfl ?yOp843) ?_
          case yOp843 => (intro w hw; go_simp; first | done | rfl)
          simp only [Act.put, Act.eval, List.setIfInBounds_toArray, List.set_cons_zero, List.set_cons_succ, Array.getD_eq_getD_getElem?, List.getElem?_toArray, List.getElem?_cons_zero, List.getElem?_cons_succ, Option.getD_some]
          refine wpL_take hOps hS rfl (fun _ _ _ h => h) (yl_get rfl _ _ rfl rfl (by kernel_rfl) (fun w hw => raw_at (At.heap hw 0 rfl) rfl)) ?_
          simp only [Act.put, Act.eval, List.setIfInBounds_toArray, List.set_cons_zero, List.set_cons_succ, Array.getD_eq_getD_getElem?, List.getElem?_toArray, List.getElem?_cons_zero, List.getElem?_cons_succ, Option.getD_some]
          refine wpL_take hOps hS rfl (fun _ _ _ h => h) (yl_move rfl _ rfl) ?_
          simp only [Act.put, Act.eval, List.setIfInBounds_toArray, List.set_cons_zero, List.set_cons_succ, Array.getD_eq_getD_getElem?, List.getElem?_toArray, List.getElem?_cons_zero, List.getElem?_cons_succ, Option.getD_some]
          refine wpL_take hOps hS (v := ?vOp850) rfl (fun _ _ _ h => h) (yl rfl ?yOp850) ?_
          case yOp850 => (intro w hw; go_simp; first | done | rfl)
          simp only [Act.put, Act.eval, List.setIfInBounds_toArray, List.set_cons_zero, List.set_cons_succ, Array.getD_eq_getD_getElem?, List.getElem?_toArray, List.getElem?_cons_zero, List.getElem?_cons_succ, Option.getD_some]
          refine wpL_take hOps hS rfl (fun _ _ _ h => h) (yl_mid rfl _ _ rfl rfl (thC .u64 (g l m)) (by kernel_rfl) (by kernel_rfl) (fun w hw => lrow_at el_thU hw 1 rfl Hm.out)) ?_
          simp only [Act.put, Act.eval, List.setIfInBounds_toArray, List.set_cons_zero, List.set_cons_succ, Array.getD_eq_getD_getElem?, List.getElem?_toArray, List.getElem?_cons_zero, List.getElem?_cons_succ, Option.getD_some]
          refine wpL_next hOps rfl rfl ?_
          intro K hK
          refine wp_call _ _ _ rfl Try.func31 rfl (by kernel_rfl) ?_
          simp only [List.map_toArray, List.map_cons, List.map_nil, Act.eval, Array.getD_eq_getD_getElem?, List.getElem?_toArray, List.getElem?_cons_zero, List.getElem?_cons_succ, Option.getD_some]
          refine (lessU_c H _ _).mono ?_; rintro e w' ⟨rfl, H⟩
          have hS := (H)
          refine hK _ _ hS ?_
          clear hK K
          simp only [Act.put, Act.eval, List.setIfInBounds_toArray, List.set_cons_zero, List.set_cons_succ, Array.getD_eq_getD_getElem?, List.getElem?_toArray, List.getElem?_cons_zero, List.getElem?_cons_succ, Option.getD_some]
          by_cases hl2 : lt (g l kd) (g l m)
          · rw [decide_eq_true hl2]
            refine wpL_take hOps hS (v := ?vOp858) rfl (fun _ _ _ h => h) (yl rfl ?yOp858) ?_
            case yOp858 => (intro w hw; go_simp; first | done | rfl)
            simp only [Act.put, Act.eval, List.setIfInBounds_toArray, List.set_cons_zero, List.set_cons_succ, Array.getD_eq_getD_getElem?, List.getElem?_toArray, List.getElem?_cons_zero, List.getElem?_cons_succ, Option.getD_some]
            refine wpL_end ?_
            clear hOps hS ops
            go_wp2
            go_roundw
            case rel => exact ⟨kd, 1 + 1, rfl, by go_num, by omega, HKD.out ▸ HK.out.next (by omega) (HKD.out ▸ hlt) (HKD.out ▸ hl2), HLL.out, HP.out, HU.out, H⟩
            case measure => simp [intOf]
          · rw [decide_eq_false hl2]
            refine wpL_take hOps hS (v := ?vOp861) rfl (fun _ _ _ h => h) (yl rfl ?yOp861) ?_
            case yOp861 => (intro w hw; go_simp; first | done | rfl)
            simp only [Act.put, Act.eval, List.setIfInBounds_toArray, List.set_cons_zero, List.set_cons_succ, Array.getD_eq_getD_getElem?, List.getElem?_toArray, List.getElem?_cons_zero, List.getElem?_cons_succ, Option.getD_some]
            refine wpL_end ?_
            clear hOps hS ops
            go_wp2
            go_roundw
            case rel => exact ⟨m, 1 + 1, rfl, by go_num, by omega, HK.out.keep (fun _ => HKD.out ▸ hl2), HLL.out, HP.out, HU.out, H⟩
            case measure => simp [intOf]
        · refine wpL_begin 24 (At w0 (raw p #[.int .i64 most, .slice a l.length cap, .int .u64 nx] 65 :: lrow 67 3 (thC .u64) (.slice a l.length cap) l :: L)) [(0, true), (1, true), (2, true), (3, true), (4, true), (5, true), (6, true), (7, true), (8, true), (9, true), (10, true), (11, true), (12, true), (13, true), (14, true), (15, true), (16, true), (17, true), (18, true), (19, true), (20, true), (21, true), (22, false), (23, true)] rfl (by kernel_rfl) (by kernel_rfl) ((H.drew)) ?_
          intro ops hOps hS
          replace H := H.drew
          refine wpL_take hOps hS rfl (fun _ _ _ h => h) (yl_move rfl _ rfl) ?_
          simp only [Act.put, Act.eval, List.setIfInBounds_toArray, List.set_cons_zero, List.set_cons_succ, Array.getD_eq_getD_getElem?, List.getElem?_toArray, List.getElem?_cons_zero, List.getElem?_cons_succ, Option.getD_some]
          refine wpL_take hOps hS rfl (fun _ _ _ h => h) (yl_move rfl _ rfl) ?_
          simp only [Act.put, Act.eval, List.setIfInBounds_toArray, List.set_cons_zero, List.set_cons_succ, Array.getD_eq_getD_getElem?, List.getElem?_toArray, List.getElem?_cons_zero, List.getElem?_cons_succ, Option.getD_some]
          refine wpL_take hOps hS rfl (fun _ _ _ h => h) (yl_nil rfl _ rfl _ rfl) ?_
          simp only [Act.put, Act.eval, List.setIfInBounds_toArray, List.set_cons_zero, List.set_cons_succ, Array.getD_eq_getD_getElem?, List.getElem?_toArray, List.getElem?_cons_zero, List.getElem?_cons_succ, Option.getD_some]
          refine wpL_take hOps hS (v := ?vOp875) rfl (fun _ _ _ h => h) (yl rfl ?yOp875) ?_
          case yOp875 => (intro w hw; go_simp; first | done | rfl)
          simp only [Act.put, Act.eval, List.setIfInBounds_toArray, List.set_cons_zero, List.set_cons_succ, Array.getD_eq_getD_getElem?, List.getElem?_toArray, List.getElem?_cons_zero, List.getElem?_cons_succ, Option.getD_some]
          refine wpL_take hOps hS rfl (fun _ _ _ h => h) (yl_get rfl _ _ rfl rfl (by kernel_rfl) (fun w hw => raw_at (At.heap hw 0 rfl) rfl)) ?_
          simp only [Act.put, Act.eval, List.setIfInBounds_toArray, List.set_cons_zero, List.set_cons_succ, Array.getD_eq_getD_getElem?, List.getElem?_toArray, List.getElem?_cons_zero, List.getElem?_cons_succ, Option.getD_some]
          refine wpL_take hOps hS (v := ?vOp879) rfl (fun _ _ _ h => h) (yl rfl ?yOp879) ?_
          case yOp879 => (intro w hw; go_simp; first | done | rfl)
          simp only [Act.put, Act.eval, List.setIfInBounds_toArray, List.set_cons_zero, List.set_cons_succ, Array.getD_eq_getD_getElem?, List.getElem?_toArray, List.getElem?_cons_zero, List.getElem?_cons_succ, Option.getD_some]
          refine wpL_take hOps hS (v := ?vOp881) rfl (fun _ _ _ h => h) (yl rfl ?yOp881) ?_
          case yOp881 => (intro w hw; go_simp; first | done | rfl)
          simp only [Act.put, Act.eval, List.setIfInBounds_toArray, List.set_cons_zero, List.set_cons_succ, Array.getD_eq_getD_getElem?, List.getElem?_toArray, List.getElem?_cons_zero, List.getElem?_cons_succ, Option.getD_some]
          first | rw [show decide (kd < l.length) = false from decide_eq_false hlt] | skip
          refine wpL_take hOps hS rfl (fun _ _ _ h => h) (yl_move rfl _ rfl) ?_
          simp only [Act.put, Act.eval, List.setIfInBounds_toArray, List.set_cons_zero, List.set_cons_succ, Array.getD_eq_getD_getElem?, List.getElem?_toArray, List.getElem?_cons_zero, List.getElem?_cons_succ, Option.getD_some]
          refine wpL_take hOps hS rfl (fun _ _ _ h => h) (yn rfl) ?_
          simp only [Act.put, Act.eval, List.setIfInBounds_toArray, List.set_cons_zero, List.set_cons_succ, Array.getD_eq_getD_getElem?, List.getElem?_toArray, List.getElem?_cons_zero, List.getElem?_cons_succ, Option.getD_some]
          refine wpL_take hOps hS rfl (fun _ _ _ h => h) (yn rfl) ?_
          simp only [Act.put, Act.eval, List.setIfInBounds_toArray, List.set_cons_zero, List.set_cons_succ, Array.getD_eq_getD_getElem?, List.getElem?_toArray, List.getElem?_cons_zero, List.getElem?_cons_succ, Option.getD_some]
          refine wpL_take hOps hS rfl (fun _ _ _ h => h) (yn rfl) ?_
          simp only [Act.put, Act.eval, List.setIfInBounds_toArray, List.set_cons_zero, List.set_cons_succ, Array.getD_eq_getD_getElem?, List.getElem?_toArray, List.getElem?_cons_zero, List.getElem?_cons_succ, Option.getD_some]
          refine wpL_take hOps hS rfl (fun _ _ _ h => h) (yn rfl) ?_
          simp only [Act.put, Act.eval, List.setIfInBounds_toArray, List.set_cons_zero, List.set_cons_succ, Array.getD_eq_getD_getElem?, List.getElem?_toArray, List.getElem?_cons_zero, List.getElem?_cons_succ, Option.getD_some]
          refine wpL_take hOps hS rfl (fun _ _ _ h => h) (yn rfl) ?_
          simp only [Act.put, Act.eval, List.setIfInBounds_toArray, List.set_cons_zero, List.set_cons_succ, Array.getD_eq_getD_getElem?, List.getElem?_toArray, List.getElem?_cons_zero, List.getElem?_cons_succ, Option.getD_some]
          refine wpL_take hOps hS rfl (fun _ _ _ h => h) (yn rfl) ?_
          simp only [Act.put, Act.eval, List.setIfInBounds_toArray, List.set_cons_zero, List.set_cons_succ, Array.getD_eq_getD_getElem?, List.getElem?_toArray, List.getElem?_cons_zero, List.getElem?_cons_succ, Option.getD_some]
          refine wpL_take hOps hS rfl (fun _ _ _ h => h) (yn rfl) ?_
          simp only [Act.put, Act.eval, List.setIfInBounds_toArray, List.set_cons_zero, List.set_cons_succ, Array.getD_eq_getD_getElem?, List.getElem?_toArray, List.getElem?_cons_zero, List.getElem?_cons_succ, Option.getD_some]
          refine wpL_take hOps hS rfl (fun _ _ _ h => h) (yn rfl) ?_
          simp only [Act.put, Act.eval, List.setIfInBounds_toArray, List.set_cons_zero, List.set_cons_succ, Array.getD_eq_getD_getElem?, List.getElem?_toArray, List.getElem?_cons_zero, List.getElem?_cons_succ, Option.getD_some]
          refine wpL_take hOps hS rfl (fun _ _ _ h => h) (yn rfl) ?_
          simp only [Act.put, Act.eval, List.setIfInBounds_toArray, List.set_cons_zero, List.set_cons_succ, Array.getD_eq_getD_getElem?, List.getElem?_toArray, List.getElem?_cons_zero, List.getElem?_cons_succ, Option.getD_some]
          refine wpL_take hOps hS rfl (fun _ _ _ h => h) (yn rfl) ?_
          simp only [Act.put, Act.eval, List.setIfInBounds_toArray, List.set_cons_zero, List.set_cons_succ, Array.getD_eq_getD_getElem?, List.getElem?_toArray, List.getElem?_cons_zero, List.getElem?_cons_succ, Option.getD_some]
          refine wpL_take hOps hS rfl (fun _ _ _ h => h) (yn rfl) ?_
          simp only [Act.put, Act.eval, List.setIfInBounds_toArray, List.set_cons_zero, List.set_cons_succ, Array.getD_eq_getD_getElem?, List.getElem?_toArray, List.getElem?_cons_zero, List.getElem?_cons_succ, Option.getD_some]
          refine wpL_take hOps hS rfl (fun _ _ _ h => h) (yn rfl) ?_
          simp only [Act.put, Act.eval, List.setIfInBounds_toArray, List.set_cons_zero, List.set_cons_succ, Array.getD_eq_getD_getElem?, List.getElem?_toArray, List.getElem?_cons_zero, List.getElem?_cons_succ, Option.getD_some]
          refine wpL_take hOps hS rfl (fun _ _ _ h => h) (yn rfl) ?_
          simp only [Act.put, Act.eval, List.setIfInBounds_toArray, List.set_cons_zero, List.set_cons_succ, Array.getD_eq_getD_getElem?, List.getElem?_toArray, List.getElem?_cons_zero, List.getElem?_cons_succ, Option.getD_some]
          refine wpL_take hOps hS rfl (fun _ _ _ h => h) (yn rfl) ?_
          simp only [Act.put, Act.eval, List.setIfInBounds_toArray, List.set_cons_zero, List.set_cons_succ, Array.getD_eq_getD_getElem?, List.getElem?_toArray, List.getElem?_cons_zero, List.getElem?_cons_succ, Option.getD_some]
          refine wpL_skip hOps hS rfl rfl ?_
          simp only [Act.put, Act.eval, List.setIfInBounds_toArray, List.set_cons_zero, List.set_cons_succ, Array.getD_eq_getD_getElem?, List.getElem?_toArray, List.getElem?_cons_zero, List.getElem?_cons_succ, Option.getD_some]
          refine wpL_take hOps hS (v := ?vOp916) rfl (fun _ _ _ h => h) (yl rfl ?yOp916) ?_
          case yOp916 => (intro w hw; go_simp; first | done | rfl)
          simp only [Act.put, Act.eval, List.setIfInBounds_toArray, List.set_cons_zero, List.set_cons_succ, Array.getD_eq_getD_getElem?, List.getElem?_toArray, List.getElem?_cons_zero, List.getElem?_cons_succ, Option.getD_some]
          refine wpL_end ?_
          clear hOps hS ops
          go_wp2
          go_roundw
          case rel => exact ⟨m, 1 + 1, rfl, by go_num, by omega, HK.out.keep (fun h => absurd (HKD.out ▸ h) hlt), HLL.out, HP.out, HU.out, H⟩
          case measure => simp [intOf]
      · by_cases he : m = j
        · have HS := Lib.hid (HK.out.stop HU.out he)
          subst he
          go_wp2_with fail
          first | go_ret | go_end0 | (refine bodyPost_ret (results_none rfl _ _ _) rfl ?_)
          exact ⟨_, l, rfl, HP.out, HS.out, H⟩
        · obtain ⟨hs1, hs2, hs3, hs4⟩ := HK.out.step HU.out he
          have HS := Lib.hid hs4
          have he2 : ¬ (m : Int) = (j : Int) := by omega
          clear hs4 he
          go_wp2_with fail
          refine (swapU_c H j m (by omega) (by omega)).mono ?_; rintro e w' ⟨v, rfl, H⟩
          go_wp2
          go_roundw
          case rel => exact ⟨m, sw l j m, rfl, by have := HLL.out; omega, by rw [sw_length]; exact HLL.out, (sw_perm hs1 hs2).trans HP.out, HS.out, H⟩
          case measure => have := HLL.out; simp [intOf]; omega
end Go.Proofs.Ytkbdpidcdmhhgaa
