/-
  What the laws of the route share: two rows alike; how many routes there are; the small case of each.
-/
import Derived.Test.YtddddlphnoicpaaRouteC
import Derived.Test.YtddddlphnoicpaaLits
namespace Go.Proofs.Ytddddlphnoicpaa
open Go.RowKit Go.Hg
set_option linter.unusedSimpArgs false
set_option linter.unusedVariables false
theorem under_words : Try.prog.underlying 22 = some (.slice 31) := by kernel_rfl
theorem el_w : El Try.prog 31 1 8 (ic .u64) := ⟨⟨.int .u64 0, by kernel_rfl, rfl⟩, fun _ => rfl, fun x u hu => by simp [ic] at hu; subst hu; rfl⟩
theorem sees_nil {w0 : World} {F : List SP} {k : IntKind} : Sees w0 F k (.slice none 0 0) [] := ⟨none, 0, 0, 0, rfl, Nat.le_refl _, fun h => absurd h (by simp), fun w' _ i hi => absurd hi (by simp)⟩
set_option maxRecDepth 10000 in
set_option maxHeartbeats 1000000 in
theorem same_c {w0 w : World} {F : List SP} {v v2 : Value} {xs : List Int} (H : At w0 F w) (hv : Sees w0 F .u16 v xs) (hv2 : Sees w0 F .u16 v2 xs) (hl : xs.length ≤ 1000000) :
    Calls Try.prog 11 #[v, v2] w fun e w' => e = .returned (.bool true) ∧ At w0 F w' := by
  obtain ⟨a, cap, b, off, rfl, hc, ha, hcell⟩ := hv
  obtain ⟨a2, cap2, b2, off2, rfl, hc2, ha2, hcell2⟩ := hv2
  go_enter Try.func11, Try.ntmps11
  go_wp2_with fail
  go_loopw [5] (fun i wr => ∃ j : Nat, j ≤ xs.length ∧ i = .int .i64 j ∧ At w0 F wr) (fun i _ => xs.length - (intOf i).toNat)
  case atStart => exact ⟨0, by omega, rfl, H⟩
  case round =>
    clear H
    obtain ⟨j, hj, rfl, H⟩ := hrel
    by_cases hlt : (j : Int) < xs.length
    · obtain rfl := ha (by omega)
      obtain rfl := ha2 (by omega)
      go_wp2_with fail
      refine wpL_begin 9 (At w0 F) [(0, true), (1, true), (2, true), (3, true), (4, true), (5, true), (6, true), (7, true), (8, true)] rfl (by kernel_rfl) (by kernel_rfl) ((H.drew)) ?_
      intro ops hOps hS
      replace H := H.drew
      refine wpL_take hOps hS rfl (fun _ _ _ h => h) (yl_move rfl _ rfl) ?_
      simp only [Act.put, Act.eval, List.setIfInBounds_toArray, List.set_cons_zero, List.set_cons_succ, Array.getD_eq_getD_getElem?, List.getElem?_toArray, List.getElem?_cons_zero, List.getElem?_cons_succ, Option.getD_some]
      refine wpL_take hOps hS rfl (fun _ _ _ h => h) (yl_move rfl _ rfl) ?_
      simp only [Act.put, Act.eval, List.setIfInBounds_toArray, List.set_cons_zero, List.set_cons_succ, Array.getD_eq_getD_getElem?, List.getElem?_toArray, List.getElem?_cons_zero, List.getElem?_cons_succ, Option.getD_some]
      refine wpL_take hOps hS (v := ?vOp8) rfl (fun _ _ _ h => h) (yl rfl ?yOp8) ?_
      case yOp8 => (intro w hw; go_simp; first | done | rfl)
      simp only [Act.put, Act.eval, List.setIfInBounds_toArray, List.set_cons_zero, List.set_cons_succ, Array.getD_eq_getD_getElem?, List.getElem?_toArray, List.getElem?_cons_zero, List.getElem?_cons_succ, Option.getD_some]
      refine wpL_take hOps hS rfl (fun _ _ _ h => h) (yl_get rfl _ _ rfl rfl (by kernel_rfl) (fun w hw => hcell w hw j (by omega))) ?_
      simp only [Act.put, Act.eval, List.setIfInBounds_toArray, List.set_cons_zero, List.set_cons_succ, Array.getD_eq_getD_getElem?, List.getElem?_toArray, List.getElem?_cons_zero, List.getElem?_cons_succ, Option.getD_some]
      refine wpL_take hOps hS rfl (fun _ _ _ h => h) (yl_move rfl _ rfl) ?_
      simp only [Act.put, Act.eval, List.setIfInBounds_toArray, List.set_cons_zero, List.set_cons_succ, Array.getD_eq_getD_getElem?, List.getElem?_toArray, List.getElem?_cons_zero, List.getElem?_cons_succ, Option.getD_some]
      refine wpL_take hOps hS rfl (fun _ _ _ h => h) (yl_move rfl _ rfl) ?_
      simp only [Act.put, Act.eval, List.setIfInBounds_toArray, List.set_cons_zero, List.set_cons_succ, Array.getD_eq_getD_getElem?, List.getElem?_toArray, List.getElem?_cons_zero, List.getElem?_cons_succ, Option.getD_some]
      refine wpL_take hOps hS (v := ?vOp18) rfl (fun _ _ _ h => h) (yl rfl ?yOp18) ?_
      case yOp18 => (intro w hw; go_simp; first | done | rfl)
      simp only [Act.put, Act.eval, List.setIfInBounds_toArray, List.set_cons_zero, List.set_cons_succ, Array.getD_eq_getD_getElem?, List.getElem?_toArray, List.getElem?_cons_zero, List.getElem?_cons_succ, Option.getD_some]
      refine wpL_take hOps hS rfl (fun _ _ _ h => h) (yl_get rfl _ _ rfl rfl (by kernel_rfl) (fun w hw => hcell2 w hw j (by omega))) ?_
      simp only [Act.put, Act.eval, List.setIfInBounds_toArray, List.set_cons_zero, List.set_cons_succ, Array.getD_eq_getD_getElem?, List.getElem?_toArray, List.getElem?_cons_zero, List.getElem?_cons_succ, Option.getD_some]
      refine wpL_take hOps hS (v := ?vOp22) rfl (fun _ _ _ h => h) (yl rfl ?yOp22) ?_
      case yOp22 => (intro w hw; go_simp; first | done | rfl)
      simp only [Act.put, Act.eval, List.setIfInBounds_toArray, List.set_cons_zero, List.set_cons_succ, Array.getD_eq_getD_getElem?, List.getElem?_toArray, List.getElem?_cons_zero, List.getElem?_cons_succ, Option.getD_some]
      refine wpL_end ?_
      clear hOps hS ops
      go_wp2
      go_roundw
      case rel => exact ⟨j + 1, by omega, by go_num, H⟩
      case measure => simp [intOf]; omega
    · go_wp2
      go_ret
      exact ⟨rfl, H⟩
theorem drawn_length {ws left : List Int} (h : ws.length ≤ left.length) : (drawn ws left).1.length = ws.length := by
  have key : ∀ (ws : List Int) (p : List Int × List Int), (ws.foldl lstep p).1.length = p.1.length + ws.length := by
    intro ws
    induction ws with
    | nil => intro p; simp
    | cons x ws ih => intro p; rw [List.foldl_cons, ih]; simp [lstep]; omega
  have := key ws ([], left)
  simpa [drawn] using this
/-- How many routes there are. -/
def cntN (n : Int) : Nat → Int
  | 0 => 1
  | k + 1 => cntN n k * (n - (k + 1))
theorem cntN_bound {n : Int} (hn : n ≤ 16) : ∀ k : Nat, (k : Int) + 1 ≤ n → 0 ≤ cntN n k ∧ cntN n k ≤ 16 ^ k
  | 0, _ => by simp [cntN]
  | k + 1, h => by
    obtain ⟨h1, h2⟩ := cntN_bound hn k (by omega)
    have h3 : 0 ≤ n - ((k : Int) + 1) := by omega
    have h4 : n - ((k : Int) + 1) ≤ 16 := by omega
    refine ⟨Int.mul_nonneg h1 h3, ?_⟩
    have := Int.mul_le_mul h2 h4 h3 (by omega)
    rw [Int.pow_succ]
    exact this
theorem cntN_wrap {n : Int} (hn : n ≤ 16) {k : Nat} (h : (k : Int) + 1 + 1 ≤ n) (hk : k + 1 ≤ 4) : IntKind.u64.wrap (cntN n k * (n - ((k : Int) + 1))) = cntN n (k + 1) := by
  obtain ⟨h1, h2⟩ := cntN_bound hn (k + 1) (by omega)
  have h3 : (16 : Int) ^ (k + 1) ≤ 16 ^ 4 := by
    rcases (by omega : k = 0 ∨ k = 1 ∨ k = 2 ∨ k = 3) with rfl | rfl | rfl | rfl <;> decide
  show IntKind.u64.wrap (cntN n (k + 1)) = _
  rw [IntKind.wrap_u64]
  omega
def cntZ (n hops : Int) : Int := if hops < 1 ∨ hops > 5 ∨ n < hops ∨ n > 16 then 0 else cntN n (hops - 1).toNat
set_option maxRecDepth 10000 in
set_option maxHeartbeats 1000000 in
theorem count_ok (n : Int) (hn : n ≤ 16) : ∀ (k : Nat), k ≤ 4 → (k : Int) + 1 ≤ n → ∀ w : World, Calls Try.prog 12 #[.int .i64 n, .int .i64 ((k : Int) + 1)] w fun e w' => e = .returned (.int .u64 (cntN n k)) ∧ w = w'
  | 0, _, h, w => by
    have h1 : ¬ n < 1 := by omega
    go_enter Try.func12, Try.ntmps12
    go_wp2
    go_ret
    exact ⟨rfl, rfl⟩
  | k + 1, hk, h, w => by
    have ih := count_ok n hn k (by omega) (by omega) w
    have hw := cntN_wrap hn (k := k) (by omega) hk
    have h1 : ¬ n < (k : Int) + 1 + 1 := by omega
    have h2 : (k : Int) ≤ 3 := by omega
    have h3 : IntKind.i64.wrap ((k : Int) + 1 + 1 - 1) = (k : Int) + 1 := by rw [IntKind.wrap_i64]; omega
    have h4 : IntKind.i64.wrap (n - ((k : Int) + 1 + 1)) = n - ((k : Int) + 1 + 1) := by rw [IntKind.wrap_i64]; omega
    have h5 : IntKind.i64.wrap (n - ((k : Int) + 1 + 1) + 1) = n - ((k : Int) + 1) := by rw [IntKind.wrap_i64]; omega
    have h6 : IntKind.u64.wrap (n - ((k : Int) + 1)) = n - ((k : Int) + 1) := by rw [IntKind.wrap_u64]; omega
    have h7 : n - ((k : Int) + 1 + 1) + 1 = n - ((k : Int) + 1) := by omega
    rw [show (((k + 1 : Nat) : Int) + 1) = (k : Int) + 1 + 1 by omega]
    go_enter Try.func12, Try.ntmps12
    go_wp2_with fail
    refine ih.mono ?_; rintro e w' ⟨rfl, rfl⟩
    go_wp2
    go_ret
    exact ⟨rfl, rfl⟩
set_option maxRecDepth 10000 in
set_option maxHeartbeats 1000000 in
theorem count_c (n hops : Int) (w : World) : Calls Try.prog 12 #[.int .i64 n, .int .i64 hops] w fun e w' => e = .returned (.int .u64 (cntZ n hops)) ∧ w = w' := by
  by_cases h : hops < 1 ∨ hops > 5 ∨ n < hops ∨ n > 16
  · have hz := Lib.hid (show cntZ n hops = 0 from if_pos h)
    by_cases h1 : hops < 1
    · clear h
      go_enter Try.func12, Try.ntmps12
      go_wp2
      go_ret
      exact ⟨by rw [hz.out]; rfl, rfl⟩
    by_cases h2 : 5 < hops
    · clear h
      go_enter Try.func12, Try.ntmps12
      go_wp2
      go_ret
      exact ⟨by rw [hz.out]; rfl, rfl⟩
    by_cases h3 : n < hops
    · clear h
      go_enter Try.func12, Try.ntmps12
      go_wp2
      go_ret
      exact ⟨by rw [hz.out]; rfl, rfl⟩
    · have h4 : 16 < n := by omega
      clear h
      go_enter Try.func12, Try.ntmps12
      go_wp2
      go_ret
      exact ⟨by rw [hz.out]; rfl, rfl⟩
  · obtain ⟨k, rfl⟩ : ∃ k : Nat, hops = (k : Int) + 1 := ⟨(hops - 1).toNat, by omega⟩
    have hz : cntZ n ((k : Int) + 1) = cntN n k := by
      unfold cntZ
      rw [if_neg h, show ((k : Int) + 1 - 1).toNat = k by omega]
    rw [hz]
    exact count_ok n (by omega) k (by omega) (by omega) w
set_option maxRecDepth 10000 in
set_option maxHeartbeats 1000000 in
theorem rcount_c (n hops : Int) (w : World) : Calls Try.prog 13 #[.int .i64 n, .int .i64 hops] w fun e w' => e = .returned (.int .u64 (cntZ n hops)) ∧ w = w' := by
  by_cases h : hops < 1 ∨ hops > 5 ∨ n < hops ∨ n > 16
  · have hz := Lib.hid (show cntZ n hops = 0 from if_pos h)
    by_cases h1 : hops < 1
    · clear h
      go_enter Try.func13, Try.ntmps13
      go_wp2
      go_ret
      exact ⟨by rw [hz.out]; rfl, rfl⟩
    by_cases h2 : 5 < hops
    · clear h
      go_enter Try.func13, Try.ntmps13
      go_wp2
      go_ret
      exact ⟨by rw [hz.out]; rfl, rfl⟩
    by_cases h3 : n < hops
    · clear h
      go_enter Try.func13, Try.ntmps13
      go_wp2
      go_ret
      exact ⟨by rw [hz.out]; rfl, rfl⟩
    · have h4 : 16 < n := by omega
      clear h
      go_enter Try.func13, Try.ntmps13
      go_wp2
      go_ret
      exact ⟨by rw [hz.out]; rfl, rfl⟩
  · obtain ⟨k, rfl⟩ : ∃ k : Nat, hops = (k : Int) + 1 := ⟨(hops - 1).toNat, by omega⟩
    have hz : cntZ n ((k : Int) + 1) = cntN n k := by
      unfold cntZ
      rw [if_neg h, show ((k : Int) + 1 - 1).toNat = k by omega]
    have HZ := Lib.hid hz
    have g1 : (k : Int) ≤ 4 := by omega
    have g2 : (k : Int) + 1 ≤ n := by omega
    have g3 : n ≤ 16 := by omega
    have g4 : ¬ n < (k : Int) + 1 := by omega
    clear h hz
    go_enter Try.func13, Try.ntmps13
    go_wp2_with fail
    go_loop [5, 6] (fun p i => ∃ j : Nat, j ≤ k ∧ p = .int .u64 (cntN n j) ∧ i = .int .i64 ((j : Int) + 1)) (fun _ i => k + 1 - (intOf i).toNat)
    case atStart => exact ⟨0, by omega, rfl, rfl⟩
    case round =>
      obtain ⟨j, hj, rfl, rfl⟩ := hrel
      by_cases hlt : (j : Int) < k
      · have hw := cntN_wrap g3 (k := j) (by omega) (by omega)
        have h6 : IntKind.u64.wrap (n - ((j : Int) + 1)) = n - ((j : Int) + 1) := by rw [IntKind.wrap_u64]; omega
        have hlt2 : (j : Int) + 1 < (k : Int) + 1 := by omega
        go_wp2
        go_round
        case rel => exact ⟨j + 1, by omega, rfl, by go_num⟩
        case measure => simp [intOf]; omega
      · have hj2 : j = k := by omega
        subst hj2
        go_wp2
        go_ret
        exact ⟨by rw [HZ.out]; rfl, rfl⟩
set_option maxRecDepth 10000 in
set_option maxHeartbeats 1000000 in
theorem shown_c {w0 w : World} {F : List SP} (H : At w0 F w) : Calls Try.prog 8 #[] w fun e w' => e = .returned (.bool true) ∧ At w0 F w' := by
  have hR : drawR [7, 5] [1, 2, 3, 4] 3 2 = [3, 4, 2] := by decide
  have hN : drawN [7, 5] [1, 2, 3, 4] 3 2 = 2 := by decide
  have hZ : wrongZ ([7, 5] : List Int).length [1, 2, 3, 4] 3 2 = 0 := by decide
  have hZ2 : wrongZ ([] : List Int).length [1, 2] 1 3 = 10 := by decide
  have HR := Lib.hid hR
  have HN := Lib.hid hN
  have HZ := Lib.hid hZ
  have HZ2 := Lib.hid hZ2
  have HC := Lib.hid (show cntZ 4 3 = 6 by decide)
  clear hR hN hZ hZ2
  go_enter Try.func8, Try.ntmps8
  go_wp2_with ((with_reducible refine wpList_op rfl ?_); intro _ hK; first | (refine wp_lits el_w 22 under_words _ _ rfl [7, 5] rfl (by omega) (by omega) rfl H (fun B w' H => hK _ _ ?_)) | (refine wp_lits el_a 23 under_Addrs _ _ rfl [1, 2, 3, 4] rfl (by omega) (by omega) rfl H (fun C w' H => hK _ _ ?_)))
  refine (draw_c H (sees_own el_w H 1 rfl) (sees_own el_a H 0 rfl) (by decide) (by simp) 3 2).mono ?_; rintro e w' ⟨a, cap, rfl, H⟩
  rw [HR.out] at H
  rw [HR.out, HN.out, HZ.out]
  obtain ⟨g, o, rfl⟩ := lrow_place H 0 rfl (by decide)
  go_wp2_with ((with_reducible refine wpList_op rfl ?_); intro _ hK; first | (refine wp_lits el_a 23 under_Addrs _ _ rfl [1, 2] rfl (by omega) (by omega) rfl H (fun C w' H => hK _ _ ?_)))
  refine (draw_c H sees_nil (sees_own el_a H 0 rfl) (by decide) (by simp) 1 3).mono ?_; rintro e w' ⟨a2, cap2, rfl, H⟩
  rw [HZ2.out]
  have c0 : w'.cell? ⟨g, o, none⟩ = some (.int .u16 3) := by simpa using lrow_cell el_a (xs := [3, 4, 2]) (x := 3) (i := 0) (j := 0) H 2 rfl rfl rfl
  have c1 : w'.cell? ⟨g, o + 1, none⟩ = some (.int .u16 4) := by simpa using lrow_cell el_a (xs := [3, 4, 2]) (x := 4) (i := 1) (j := 0) H 2 rfl rfl rfl
  have c2 : w'.cell? ⟨g, o + 2, none⟩ = some (.int .u16 2) := by simpa using lrow_cell el_a (xs := [3, 4, 2]) (x := 2) (i := 2) (j := 0) H 2 rfl rfl rfl
  go_wp2_with fail
  refine (count_c 4 3 _).mono ?_; rintro e w' ⟨rfl, rfl⟩
  rw [HC.out]
  go_wp2
  go_ret
  exact ⟨rfl, H.tail.tail.tail.tail.tail⟩
end Go.Proofs.Ytddddlphnoicpaa
