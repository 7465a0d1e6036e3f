/-
  What is wrong with what is asked for: rises, Contains, wrong.
-/
import Derived.Test.YtddddlphnoicpaaProg
import Derived.Test.YtddddlphnoicpaaSees
import Derived.Test.YtddddlphnoicpaaTree
namespace Go.Proofs.Ytddddlphnoicpaa
open Go.RowKit Go.Hg
set_option linter.unusedSimpArgs false
set_option linter.unusedVariables false
theorem under_Addrs : Try.prog.underlying 23 = some (.slice 25) := by kernel_rfl
theorem el_a : El Try.prog 25 1 2 (ic .u16) := ⟨⟨.int .u16 0, by kernel_rfl, rfl⟩, fun _ => rfl, fun x u hu => by simp [ic] at hu; subst hu; rfl⟩
set_option maxRecDepth 10000 in
set_option maxHeartbeats 1000000 in
theorem rises_c {w0 w : World} {F : List SP} {v : Value} {xs : List Int} (H : At w0 F w) (hv : Sees w0 F .u16 v xs) (hl : xs.length ≤ 1000000) :
    Calls Try.prog 19 #[v] w fun e w' => e = .returned (.bool (risesB xs)) ∧ At w0 F w' := by
  obtain ⟨a, cap, b, off, rfl, hc, ha, hcell⟩ := hv
  go_enter Try.func19, Try.ntmps19
  go_wp2_with fail
  go_loopw [6] (fun i wr => ∃ j : Nat, j ≤ xs.length ∧ i = .int .i64 j ∧ (∀ i, i < j → 0 < i → gz xs (i - 1) < gz xs i) ∧ At w0 F wr) (fun i _ => xs.length - (intOf i).toNat)
  case atStart => exact ⟨0, by omega, rfl, fun i h => absurd h (by omega), H⟩
  case round =>
    clear H
    obtain ⟨j, hj, rfl, hr, H⟩ := hrel
    have HR := Lib.hid hr
    clear hr
    by_cases hlt : (j : Int) < xs.length
    · obtain rfl := ha (by omega)
      by_cases h0 : j = 0
      · subst h0
        go_wp2_with fail
        refine wpL_begin 14 (At w0 F) [(0, true), (1, true), (2, true), (3, true), (4, true), (5, true), (6, true), (7, true), (8, true), (9, true), (10, true), (11, true), (12, true), (13, true)] rfl (by kernel_rfl) (by kernel_rfl) ((H.drew)) ?_
        intro ops hOps hS
        replace H := H.drew
        refine wpL_take hOps hS rfl (fun _ _ _ h => h) (yl_move rfl _ rfl) ?_
        simp only [Act.put, Act.eval, List.setIfInBounds_toArray, List.set_cons_zero, List.set_cons_succ, Array.getD_eq_getD_getElem?, List.getElem?_toArray, List.getElem?_cons_zero, List.getElem?_cons_succ, Option.getD_some]
        refine wpL_take hOps hS (v := ?vOp5) rfl (fun _ _ _ h => h) (yl rfl ?yOp5) ?_
        case yOp5 => (intro w hw; go_simp; first | done | rfl)
        simp only [Act.put, Act.eval, List.setIfInBounds_toArray, List.set_cons_zero, List.set_cons_succ, Array.getD_eq_getD_getElem?, List.getElem?_toArray, List.getElem?_cons_zero, List.getElem?_cons_succ, Option.getD_some]
        refine wpL_take hOps hS rfl (fun _ _ _ h => h) (yl_move rfl _ rfl) ?_
        simp only [Act.put, Act.eval, List.setIfInBounds_toArray, List.set_cons_zero, List.set_cons_succ, Array.getD_eq_getD_getElem?, List.getElem?_toArray, List.getElem?_cons_zero, List.getElem?_cons_succ, Option.getD_some]
        refine wpL_take hOps hS rfl (fun _ _ _ h => h) (yn rfl) ?_
        simp only [Act.put, Act.eval, List.setIfInBounds_toArray, List.set_cons_zero, List.set_cons_succ, Array.getD_eq_getD_getElem?, List.getElem?_toArray, List.getElem?_cons_zero, List.getElem?_cons_succ, Option.getD_some]
        refine wpL_take hOps hS rfl (fun _ _ _ h => h) (yn rfl) ?_
        simp only [Act.put, Act.eval, List.setIfInBounds_toArray, List.set_cons_zero, List.set_cons_succ, Array.getD_eq_getD_getElem?, List.getElem?_toArray, List.getElem?_cons_zero, List.getElem?_cons_succ, Option.getD_some]
        refine wpL_take hOps hS rfl (fun _ _ _ h => h) (yn rfl) ?_
        simp only [Act.put, Act.eval, List.setIfInBounds_toArray, List.set_cons_zero, List.set_cons_succ, Array.getD_eq_getD_getElem?, List.getElem?_toArray, List.getElem?_cons_zero, List.getElem?_cons_succ, Option.getD_some]
        refine wpL_take hOps hS rfl (fun _ _ _ h => h) (yn rfl) ?_
        simp only [Act.put, Act.eval, List.setIfInBounds_toArray, List.set_cons_zero, List.set_cons_succ, Array.getD_eq_getD_getElem?, List.getElem?_toArray, List.getElem?_cons_zero, List.getElem?_cons_succ, Option.getD_some]
        refine wpL_take hOps hS rfl (fun _ _ _ h => h) (yn rfl) ?_
        simp only [Act.put, Act.eval, List.setIfInBounds_toArray, List.set_cons_zero, List.set_cons_succ, Array.getD_eq_getD_getElem?, List.getElem?_toArray, List.getElem?_cons_zero, List.getElem?_cons_succ, Option.getD_some]
        refine wpL_take hOps hS rfl (fun _ _ _ h => h) (yn rfl) ?_
        simp only [Act.put, Act.eval, List.setIfInBounds_toArray, List.set_cons_zero, List.set_cons_succ, Array.getD_eq_getD_getElem?, List.getElem?_toArray, List.getElem?_cons_zero, List.getElem?_cons_succ, Option.getD_some]
        refine wpL_take hOps hS rfl (fun _ _ _ h => h) (yn rfl) ?_
        simp only [Act.put, Act.eval, List.setIfInBounds_toArray, List.set_cons_zero, List.set_cons_succ, Array.getD_eq_getD_getElem?, List.getElem?_toArray, List.getElem?_cons_zero, List.getElem?_cons_succ, Option.getD_some]
        refine wpL_take hOps hS rfl (fun _ _ _ h => h) (yn rfl) ?_
        simp only [Act.put, Act.eval, List.setIfInBounds_toArray, List.set_cons_zero, List.set_cons_succ, Array.getD_eq_getD_getElem?, List.getElem?_toArray, List.getElem?_cons_zero, List.getElem?_cons_succ, Option.getD_some]
        refine wpL_take hOps hS rfl (fun _ _ _ h => h) (yn rfl) ?_
        simp only [Act.put, Act.eval, List.setIfInBounds_toArray, List.set_cons_zero, List.set_cons_succ, Array.getD_eq_getD_getElem?, List.getElem?_toArray, List.getElem?_cons_zero, List.getElem?_cons_succ, Option.getD_some]
        refine wpL_take hOps hS rfl (fun _ _ _ h => h) (yn rfl) ?_
        simp only [Act.put, Act.eval, List.setIfInBounds_toArray, List.set_cons_zero, List.set_cons_succ, Array.getD_eq_getD_getElem?, List.getElem?_toArray, List.getElem?_cons_zero, List.getElem?_cons_succ, Option.getD_some]
        refine wpL_take hOps hS (v := ?vOp30) rfl (fun _ _ _ h => h) (yl rfl ?yOp30) ?_
        case yOp30 => (intro w hw; go_simp; first | done | rfl)
        simp only [Act.put, Act.eval, List.setIfInBounds_toArray, List.set_cons_zero, List.set_cons_succ, Array.getD_eq_getD_getElem?, List.getElem?_toArray, List.getElem?_cons_zero, List.getElem?_cons_succ, Option.getD_some]
        refine wpL_end ?_
        clear hOps hS ops
        go_wp2
        go_roundw
        case rel => exact ⟨1, by omega, by go_num, fun i h h' => by omega, H⟩
        case measure => simp [intOf]; omega
      · obtain ⟨q, rfl⟩ : ∃ q, j = q + 1 := ⟨j - 1, by omega⟩
        have hw1 : IntKind.i64.wrap (((q + 1 : Nat) : Int) - 1) = (q : Int) := by rw [IntKind.wrap_i64]; omega
        have hw2 : IntKind.i64.wrap ((q : Int) + 1 - 1) = (q : Int) := by rw [IntKind.wrap_i64]; omega
        have hw3 : IntKind.i64.wrap (q : Int) = (q : Int) := by rw [IntKind.wrap_i64]; omega
        have hq0 : (0 : Int) < (q : Int) + 1 := by omega
        have hq1 : (q : Int) < xs.length := by omega
        have hq2 : (q : Int) + 1 < xs.length := by omega
        go_wp2_with fail
        refine wpL_begin 14 (At w0 F) [(0, true), (1, true), (2, true), (3, true), (4, true), (5, true), (6, true), (7, true), (8, true), (9, true), (10, true), (11, true), (12, true), (13, true)] rfl (by kernel_rfl) (by kernel_rfl) ((H.drew)) ?_
        intro ops hOps hS
        replace H := H.drew
        refine wpL_take hOps hS rfl (fun _ _ _ h => h) (yl_move rfl _ rfl) ?_
        simp only [Act.put, Act.eval, List.setIfInBounds_toArray, List.set_cons_zero, List.set_cons_succ, Array.getD_eq_getD_getElem?, List.getElem?_toArray, List.getElem?_cons_zero, List.getElem?_cons_succ, Option.getD_some]
        refine wpL_take hOps hS (v := ?vOp37) rfl (fun _ _ _ h => h) (yl rfl ?yOp37) ?_
        case yOp37 => (intro w hw; go_simp; first | done | rfl)
        simp only [Act.put, Act.eval, List.setIfInBounds_toArray, List.set_cons_zero, List.set_cons_succ, Array.getD_eq_getD_getElem?, List.getElem?_toArray, List.getElem?_cons_zero, List.getElem?_cons_succ, Option.getD_some]
        first | rw [show decide ((0 : Int) < (q : Int) + 1) = true from decide_eq_true hq0] | skip
        refine wpL_take hOps hS rfl (fun _ _ _ h => h) (yl_move rfl _ rfl) ?_
        simp only [Act.put, Act.eval, List.setIfInBounds_toArray, List.set_cons_zero, List.set_cons_succ, Array.getD_eq_getD_getElem?, List.getElem?_toArray, List.getElem?_cons_zero, List.getElem?_cons_succ, Option.getD_some]
        refine wpL_take hOps hS rfl (fun _ _ _ h => h) (yl_move rfl _ rfl) ?_
        simp only [Act.put, Act.eval, List.setIfInBounds_toArray, List.set_cons_zero, List.set_cons_succ, Array.getD_eq_getD_getElem?, List.getElem?_toArray, List.getElem?_cons_zero, List.getElem?_cons_succ, Option.getD_some]
        refine wpL_take hOps hS rfl (fun _ _ _ h => h) (yl_move rfl _ rfl) ?_
        simp only [Act.put, Act.eval, List.setIfInBounds_toArray, List.set_cons_zero, List.set_cons_succ, Array.getD_eq_getD_getElem?, List.getElem?_toArray, List.getElem?_cons_zero, List.getElem?_cons_succ, Option.getD_some]
        refine wpL_take hOps hS (v := ?vOp48) rfl (fun _ _ _ h => h) (yl rfl ?yOp48) ?_
        case yOp48 => (intro w hw; go_simp; first | done | rfl)
        simp only [Act.put, Act.eval, List.setIfInBounds_toArray, List.set_cons_zero, List.set_cons_succ, Array.getD_eq_getD_getElem?, List.getElem?_toArray, List.getElem?_cons_zero, List.getElem?_cons_succ, Option.getD_some]
        refine wpL_take hOps hS (v := ?vOp50) rfl (fun _ _ _ h => h) (yl rfl ?yOp50) ?_
        case yOp50 => (intro w hw; go_simp; first | done | rfl)
        simp only [Act.put, Act.eval, List.setIfInBounds_toArray, List.set_cons_zero, List.set_cons_succ, Array.getD_eq_getD_getElem?, List.getElem?_toArray, List.getElem?_cons_zero, List.getElem?_cons_succ, Option.getD_some]
        refine wpL_take hOps hS rfl (fun _ _ _ h => h) (yl_get rfl _ _ rfl rfl (by kernel_rfl) (fun w hw => hcell w hw q (by omega))) ?_
        simp only [Act.put, Act.eval, List.setIfInBounds_toArray, List.set_cons_zero, List.set_cons_succ, Array.getD_eq_getD_getElem?, List.getElem?_toArray, List.getElem?_cons_zero, List.getElem?_cons_succ, Option.getD_some]
        refine wpL_take hOps hS rfl (fun _ _ _ h => h) (yl_move rfl _ rfl) ?_
        simp only [Act.put, Act.eval, List.setIfInBounds_toArray, List.set_cons_zero, List.set_cons_succ, Array.getD_eq_getD_getElem?, List.getElem?_toArray, List.getElem?_cons_zero, List.getElem?_cons_succ, Option.getD_some]
        refine wpL_take hOps hS rfl (fun _ _ _ h => h) (yl_move rfl _ rfl) ?_
        simp only [Act.put, Act.eval, List.setIfInBounds_toArray, List.set_cons_zero, List.set_cons_succ, Array.getD_eq_getD_getElem?, List.getElem?_toArray, List.getElem?_cons_zero, List.getElem?_cons_succ, Option.getD_some]
        refine wpL_take hOps hS (v := ?vOp60) rfl (fun _ _ _ h => h) (yl rfl ?yOp60) ?_
        case yOp60 => (intro w hw; go_simp; first | done | rfl)
        simp only [Act.put, Act.eval, List.setIfInBounds_toArray, List.set_cons_zero, List.set_cons_succ, Array.getD_eq_getD_getElem?, List.getElem?_toArray, List.getElem?_cons_zero, List.getElem?_cons_succ, Option.getD_some]
        refine wpL_take hOps hS rfl (fun _ _ _ h => h) (yl_get rfl _ _ rfl rfl (by kernel_rfl) (fun w hw => hcell w hw (q + 1) (by omega))) ?_
        simp only [Act.put, Act.eval, List.setIfInBounds_toArray, List.set_cons_zero, List.set_cons_succ, Array.getD_eq_getD_getElem?, List.getElem?_toArray, List.getElem?_cons_zero, List.getElem?_cons_succ, Option.getD_some]
        refine wpL_take hOps hS (v := ?vOp64) rfl (fun _ _ _ h => h) (yl rfl ?yOp64) ?_
        case yOp64 => (intro w hw; go_simp; first | done | rfl)
        simp only [Act.put, Act.eval, List.setIfInBounds_toArray, List.set_cons_zero, List.set_cons_succ, Array.getD_eq_getD_getElem?, List.getElem?_toArray, List.getElem?_cons_zero, List.getElem?_cons_succ, Option.getD_some]
        by_cases hg : gz xs q < gz xs (q + 1)
        · first | rw [show decide (gz xs (q + 1) ≤ gz xs q) = false from decide_eq_false (by omega)] | skip
          refine wpL_take hOps hS (v := ?vOp66) rfl (fun _ _ _ h => h) (yl rfl ?yOp66) ?_
          case yOp66 => (intro w hw; go_simp; first | done | rfl)
          simp only [Act.put, Act.eval, List.setIfInBounds_toArray, List.set_cons_zero, List.set_cons_succ, Array.getD_eq_getD_getElem?, List.getElem?_toArray, List.getElem?_cons_zero, List.getElem?_cons_succ, Option.getD_some]
          refine wpL_end ?_
          clear hOps hS ops
          go_wp2
          go_roundw
          case rel => exact ⟨q + 2, by omega, by go_num, fun i h h' => by
            by_cases e : i = q + 1
            · subst e; exact hg
            · exact HR.out i (by omega) h', H⟩
          case measure => simp [intOf]; omega
        · first | rw [show decide (gz xs (q + 1) ≤ gz xs q) = true from decide_eq_true (by omega)] | skip
          have hf := Lib.hid (risesB_false (xs := xs) (i := q + 1) (by omega) (by omega) hg)
          refine wpL_take hOps hS (v := ?vOp69) rfl (fun _ _ _ h => h) (yl rfl ?yOp69) ?_
          case yOp69 => (intro w hw; go_simp; first | done | rfl)
          simp only [Act.put, Act.eval, List.setIfInBounds_toArray, List.set_cons_zero, List.set_cons_succ, Array.getD_eq_getD_getElem?, List.getElem?_toArray, List.getElem?_cons_zero, List.getElem?_cons_succ, Option.getD_some]
          refine wpL_end ?_
          clear hOps hS ops
          go_wp2
          go_ret
          exact ⟨by rw [hf.out]; rfl, H⟩
    · have hj2 : j = xs.length := by omega
      subst hj2
      have ht := Lib.hid (risesB_true HR.out)
      go_wp2
      go_ret
      exact ⟨by rw [ht.out]; rfl, H⟩
set_option maxRecDepth 10000 in
set_option maxHeartbeats 1000000 in
theorem index_c {w0 w : World} {F : List SP} {v : Value} {xs : List Int} (H : At w0 F w) (hv : Sees w0 F .u16 v xs) (hl : xs.length ≤ 1000000) (x : Int) :
    Calls Try.prog 22 #[v, .int .u16 x] w fun e w' => w = w' ∧ ∃ z, e = .returned (.int .i64 z) ∧ ((z = -1 ∧ ∀ i, i < xs.length → gz xs i ≠ x) ∨ ∃ j : Nat, z = j ∧ j < xs.length ∧ gz xs j = x) := by
  obtain ⟨a, cap, b, off, rfl, hc, ha, hcell⟩ := hv
  have hcw := hcell w H
  clear hcell
  go_enter Try.func22, Try.ntmps22
  go_wp2_with fail
  go_loop [8] (fun i => ∃ j : Nat, j ≤ xs.length ∧ i = .int .i64 j ∧ (∀ i, i < j → gz xs i ≠ x)) (fun i => xs.length - (intOf i).toNat)
  case atStart => exact ⟨0, by omega, rfl, fun i h => absurd h (by omega)⟩
  case round =>
    obtain ⟨j, hj, rfl, hr⟩ := hrel
    have HR := Lib.hid hr
    clear hr
    by_cases hlt : (j : Int) < xs.length
    · obtain rfl := ha (by omega)
      have hb := hcw j (by omega)
      by_cases he : x = gz xs j
      · go_wp2
        go_ret
        exact ⟨rfl, _, rfl, .inr ⟨j, rfl, by omega, by first | rfl | exact he.symm⟩⟩
      · go_wp2
        go_round
        case rel => exact ⟨j + 1, by omega, by go_num, fun i h => by
          by_cases e : i = j
          · subst e; exact fun e => he e.symm
          · exact HR.out i (by omega)⟩
        case measure => simp [intOf]; omega
    · have hj2 : j = xs.length := by omega
      subst hj2
      go_wp2
      go_ret
      exact ⟨rfl, _, rfl, .inl ⟨rfl, HR.out⟩⟩
set_option maxRecDepth 10000 in
set_option maxHeartbeats 1000000 in
theorem contains_c {w0 w : World} {F : List SP} {v : Value} {xs : List Int} (H : At w0 F w) (hv : Sees w0 F .u16 v xs) (hl : xs.length ≤ 1000000) (x : Int) :
    Calls Try.prog 20 #[v, .int .u16 x] w fun e w' => e = .returned (.bool (decide (x ∈ xs))) ∧ w = w' := by
  go_enter Try.func20, Try.ntmps20
  go_wp2_with fail
  refine (index_c H hv hl x).mono ?_; rintro e w' ⟨rfl, z, rfl, h⟩
  rcases h with ⟨rfl, h⟩ | ⟨j, rfl, h1, h2⟩
  · have hd := Lib.hid (show decide (x ∈ xs) = false from decide_eq_false fun hm => by
      obtain ⟨i, hi, e⟩ := mem_gz hm
      exact h i hi e)
    clear h
    go_wp2
    go_ret
    exact ⟨by rw [hd.out]; rfl, rfl⟩
  · have hd := Lib.hid (show decide (x ∈ xs) = true from decide_eq_true (h2 ▸ gz_mem h1))
    clear h2
    go_wp2
    go_ret
    exact ⟨by rw [hd.out]; first | rfl | simp, rfl⟩
/-- What is wrong. -/
def wrongZ (nw : Nat) (xs : List Int) (hops last : Int) : Int :=
  if hops < 1 ∨ hops > 5 ∨ (xs.length : Int) > 16 ∨ risesB xs = false then 1 else if last ∉ xs then 10 else if (xs.length : Int) < hops then 8 else if (nw : Int) < hops - 1 then 2 else 0
set_option maxRecDepth 10000 in
set_option maxHeartbeats 2000000 in
theorem wrong_c {w0 w : World} {F : List SP} {vw v : Value} {ws xs : List Int} (H : At w0 F w) (hw : Sees w0 F .u64 vw ws) (hv : Sees w0 F .u16 v xs) (hl : xs.length ≤ 1000000) (hops last : Int) :
    Calls Try.prog 14 #[vw, v, .int .i64 hops, .int .u16 last] w fun e w' => e = .returned (.int .i64 (wrongZ ws.length xs hops last)) ∧ At w0 F w' := by
  have hr := rises_c H hv hl
  obtain ⟨wa, wcap, wb, woff, hwe, _⟩ := hw
  subst hwe
  obtain ⟨a, cap, b, off, rfl, _⟩ := id hv
  by_cases h1 : hops < 1
  · have hz := Lib.hid (show wrongZ ws.length xs hops last = 1 from if_pos (.inl h1))
    clear hr
    go_enter Try.func14, Try.ntmps14
    go_wp2
    go_ret
    exact ⟨by rw [hz.out]; rfl, H⟩
  by_cases h2 : 5 < hops
  · have hz := Lib.hid (show wrongZ ws.length xs hops last = 1 from if_pos (.inr (.inl h2)))
    clear hr
    go_enter Try.func14, Try.ntmps14
    go_wp2
    go_ret
    exact ⟨by rw [hz.out]; rfl, H⟩
  by_cases h3 : 16 < (xs.length : Int)
  · have hz := Lib.hid (show wrongZ ws.length xs hops last = 1 from if_pos (.inr (.inr (.inl h3))))
    clear hr
    go_enter Try.func14, Try.ntmps14
    go_wp2
    go_ret
    exact ⟨by rw [hz.out]; rfl, H⟩
  cases h4 : risesB xs with
  | false =>
    have hz := Lib.hid (show wrongZ ws.length xs hops last = 1 from if_pos (.inr (.inr (.inr h4))))
    have H4 := Lib.hid h4
    clear h4
    go_enter Try.func14, Try.ntmps14
    go_wp2_with fail
    refine hr.mono ?_; rintro e w' ⟨rfl, H⟩
    rw [H4.out]
    go_wp2
    go_ret
    exact ⟨by rw [hz.out]; rfl, H⟩
  | true =>
    have hn : ¬ (hops < 1 ∨ hops > 5 ∨ (xs.length : Int) > 16 ∨ risesB xs = false) := by
      rintro (h | h | h | h)
      · omega
      · omega
      · omega
      · rw [h4] at h; cases h
    have H4 := Lib.hid h4
    clear h4
    by_cases h5 : last ∈ xs
    · have hd := Lib.hid (decide_eq_true h5)
      by_cases h6 : (xs.length : Int) < hops
      · have hz := Lib.hid (show wrongZ ws.length xs hops last = 8 by unfold wrongZ; rw [if_neg hn, if_neg (not_not_intro h5), if_pos h6])
        clear h5
        go_enter Try.func14, Try.ntmps14
        go_wp2_with fail
        refine hr.mono ?_; rintro e w' ⟨rfl, H⟩
        rw [H4.out]
        go_wp2_with fail
        refine (contains_c H hv hl last).mono ?_; rintro e w' ⟨rfl, rfl⟩
        rw [hd.out]
        go_wp2
        go_ret
        exact ⟨by rw [hz.out]; rfl, H⟩
      by_cases h7 : (ws.length : Int) < hops - 1
      · have hz := Lib.hid (show wrongZ ws.length xs hops last = 2 by unfold wrongZ; rw [if_neg hn, if_neg (not_not_intro h5), if_neg h6, if_pos h7])
        clear h5
        go_enter Try.func14, Try.ntmps14
        go_wp2_with fail
        refine hr.mono ?_; rintro e w' ⟨rfl, H⟩
        rw [H4.out]
        go_wp2_with fail
        refine (contains_c H hv hl last).mono ?_; rintro e w' ⟨rfl, rfl⟩
        rw [hd.out]
        go_wp2
        go_ret
        exact ⟨by rw [hz.out]; rfl, H⟩
      · have hz := Lib.hid (show wrongZ ws.length xs hops last = 0 by unfold wrongZ; rw [if_neg hn, if_neg (not_not_intro h5), if_neg h6, if_neg h7])
        clear h5
        go_enter Try.func14, Try.ntmps14
        go_wp2_with fail
        refine hr.mono ?_; rintro e w' ⟨rfl, H⟩
        rw [H4.out]
        go_wp2_with fail
        refine (contains_c H hv hl last).mono ?_; rintro e w' ⟨rfl, rfl⟩
        rw [hd.out]
        go_wp2
        go_ret
        exact ⟨by rw [hz.out]; rfl, H⟩
    · have hd := Lib.hid (decide_eq_false h5)
      have hz := Lib.hid (show wrongZ ws.length xs hops last = 10 by unfold wrongZ; rw [if_neg hn, if_pos h5])
      clear h5
      go_enter Try.func14, Try.ntmps14
      go_wp2_with fail
      refine hr.mono ?_; rintro e w' ⟨rfl, H⟩
      rw [H4.out]
      go_wp2_with fail
      refine (contains_c H hv hl last).mono ?_; rintro e w' ⟨rfl, rfl⟩
      rw [hd.out]
      go_wp2
      go_ret
      exact ⟨by rw [hz.out]; rfl, H⟩
end Go.Proofs.Ytddddlphnoicpaa
