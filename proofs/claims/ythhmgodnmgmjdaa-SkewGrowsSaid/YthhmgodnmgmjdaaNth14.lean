/-
  The document's answer for a skew: which one has so many ahead of it, by counting.
-/
import Derived.Test.YthhmgodnmgmjdaaRef14
namespace Go.Proofs.Ythhmgodnmgmjdaa
open Go.RowKit Go.Hg Go.Shelf
set_option linter.unusedSimpArgs false
set_option linter.unusedVariables false
theorem take_snoc {α : Type} {I : List α} {i : Nat} {x : α} (h : I[i]? = some x) : I.take (i + 1) = I.take i ++ [x] := by rw [List.take_add_one, h]; rfl
theorem less_snoc {xs : List Int} {j : Nat} (h : j < xs.length) (x : Int) : less (xs.take (j + 1)) x = less (xs.take j) x + if gz xs j < x then 1 else 0 := by
  rw [take_snoc (gz_get h)]
  simp [less, List.countP_append, List.countP_cons]
theorem same_snoc {xs : List Int} {j : Nat} (h : j < xs.length) (x : Int) : same (xs.take (j + 1)) x = same (xs.take j) x + if gz xs j = x then 1 else 0 := by
  rw [take_snoc (gz_get h)]
  simp [same, List.countP_append, List.countP_cons]
def NthR (w0 : World) (F : List SP) (L : List Int) (n j : Nat) (w : World) : Prop :=
  (∀ i, i < j → ¬ (less L (gz L i) ≤ n ∧ n < less L (gz L i) + same L (gz L i))) ∧ At w0 F w
def CntR (w0 : World) (F : List SP) (L : List Int) (x : Int) (ls sm k : Nat) (w : World) : Prop :=
  ls = less (L.take k) x ∧ sm = same (L.take k) x ∧ At w0 F w
set_option maxRecDepth 10000 in
set_option maxHeartbeats 1000000 in
theorem nth_raw {w0 w : World} {F : List SP} {q : Nat} {L : List Int} {a : Option Addr} {c m : Nat} (H : At w0 (raw q #[.slice a m c] 31 :: row64 (.slice a m c) L :: F) w) (hL : L.length = m) (hm : m ≤ 16) (n : Nat) (hn : (n : Int) ≤ 100) :
    Calls Try.prog 18 #[.pointer (some ⟨q, 0, none⟩), .int .i64 n] w fun e w' => e = .returned (.int .i64 (gz (srt L) n)) ∧ At w0 (raw q #[.slice a m c] 31 :: row64 (.slice a m c) L :: F) w' := by
  have HL := Lib.hid hL
  clear hL
  go_enter Try.func18, Try.ntmps18
  go_wp2_with fail
  go_loopw [5] (fun i wr => ∃ j : Nat, j ≤ m ∧ i = .int .i64 j ∧ NthR w0 (raw q #[.slice a m c] 31 :: row64 (.slice a m c) L :: F) L n j wr) (fun i _ => m - (intOf i).toNat)
  case atStart => exact ⟨0, by omega, rfl, fun i h => absurd h (by omega), H⟩
  case round =>
    clear H
    obtain ⟨j, hj, rfl, hr, H⟩ := hrel
    have HR := Lib.hid hr
    clear hr
    by_cases hlt : (j : Int) < m
    · obtain ⟨g, off, rfl, hcell⟩ := row_at H 1 rfl HL.out (by omega)
      obtain ⟨x, hx⟩ : ∃ x, x = gz L j := ⟨_, rfl⟩
      have hcj : ∀ w', At w0 (raw q #[.slice (some ⟨g, off, none⟩) m c] 31 :: row64 (.slice (some ⟨g, off, none⟩) m c) L :: F) w' → w'.cell? ⟨g, off + j, none⟩ = some (.int .i64 x) := fun w' h => by rw [hx]; exact hcell w' h j (by omega)
      have HX := Lib.hid hx
      clear hx
      go_wp2_with ((with_reducible refine wpList_op rfl ?_); intro _ hK; refine wp_get _ _ rfl rfl (by kernel_rfl) (raw_at1 (H.heap 0 rfl) rfl) (hK _ _ ?_))
      go_loopw [6, 7, 8] (fun l s i wr => ∃ ls sm k : Nat, k ≤ m ∧ ls ≤ k ∧ sm ≤ k ∧ l = .int .i64 ls ∧ s = .int .i64 sm ∧ i = .int .i64 k ∧ CntR w0 (raw q #[.slice (some ⟨g, off, none⟩) m c] 31 :: row64 (.slice (some ⟨g, off, none⟩) m c) L :: F) L x ls sm k wr) (fun _ _ i _ => m - (intOf i).toNat)
      case atStart => exact ⟨0, 0, 0, by omega, by omega, by omega, rfl, rfl, rfl, rfl, rfl, H⟩
      case round =>
        clear H
        obtain ⟨ls, sm, k, hk, hls, hsm, rfl, rfl, rfl, h1, h2, H⟩ := hrel
        have H1 := Lib.hid h1
        have H2 := Lib.hid h2
        clear h1 h2
        by_cases hkl : (k : Int) < m
        · have hgl : k < L.length := by have := HL.out; omega
          have n1 := less_snoc hgl x
          have n2 := same_snoc hgl x
          rw [← H1.out] at n1
          rw [← H2.out] at n2
          have N1 := Lib.hid n1
          have N2 := Lib.hid n2
          clear n1 n2 hgl
          obtain ⟨y, hy⟩ : ∃ y, y = gz L k := ⟨_, rfl⟩
          have hck : ∀ w', At w0 (raw q #[.slice (some ⟨g, off, none⟩) m c] 31 :: row64 (.slice (some ⟨g, off, none⟩) m c) L :: F) w' → w'.cell? ⟨g, off + k, none⟩ = some (.int .i64 y) := fun w' h => by rw [hy]; exact hcell w' h k (by omega)
          rw [← hy] at N1 N2
          clear hy
          by_cases c1 : y < x
          · have N3 := Lib.hid (N1.out.trans (by rw [if_pos c1]))
            have N4 := Lib.hid (N2.out.trans (by rw [if_neg (by omega), Nat.add_zero]))
            have c2 : ¬ y = x := by omega
            clear N1 N2
            go_wp2_with ((with_reducible refine wpList_op rfl ?_); intro _ hK; refine wp_get _ _ rfl rfl (by kernel_rfl) (raw_at1 (H.heap 0 rfl) rfl) (hK _ _ ?_))
            refine wpL_begin 15 (At w0 (raw q #[.slice (some ⟨g, off, none⟩) m c] 31 :: row64 (.slice (some ⟨g, off, none⟩) m c) L :: F)) [(0, true), (1, true), (2, true), (3, true), (4, true), (5, true), (6, true), (7, true), (8, true), (9, true), (10, true), (11, true), (12, true), (13, true), (14, true)] rfl (by kernel_rfl) (by kernel_rfl) ((H.drew)) ?_
            intro ops hOps hS
            replace H := H.drew
            refine wpL_take hOps hS rfl (fun _ _ _ h => h) (yl_move rfl _ rfl) ?_
            simp only [Act.put, Act.eval, List.setIfInBounds_toArray, List.set_cons_zero, List.set_cons_succ, Array.getD_eq_getD_getElem?, List.getElem?_toArray, List.getElem?_cons_zero, List.getElem?_cons_succ, Option.getD_some]
            refine wpL_take hOps hS rfl (fun _ _ _ h => h) (yl_nil rfl _ rfl _ rfl) ?_
            simp only [Act.put, Act.eval, List.setIfInBounds_toArray, List.set_cons_zero, List.set_cons_succ, Array.getD_eq_getD_getElem?, List.getElem?_toArray, List.getElem?_cons_zero, List.getElem?_cons_succ, Option.getD_some]
            refine wpL_take hOps hS (v := ?vOp10) rfl (fun _ _ _ h => h) (yl rfl ?yOp10) ?_
            case yOp10 => (intro w hw; go_simp; first | done | rfl)
            simp only [Act.put, Act.eval, List.setIfInBounds_toArray, List.set_cons_zero, List.set_cons_succ, Array.getD_eq_getD_getElem?, List.getElem?_toArray, List.getElem?_cons_zero, List.getElem?_cons_succ, Option.getD_some]
            refine wpL_take hOps hS rfl (fun _ _ _ h => h) (yl_get rfl _ _ rfl rfl (by kernel_rfl) (fun w hw => raw_at1 (At.heap hw 0 rfl) rfl)) ?_
            simp only [Act.put, Act.eval, List.setIfInBounds_toArray, List.set_cons_zero, List.set_cons_succ, Array.getD_eq_getD_getElem?, List.getElem?_toArray, List.getElem?_cons_zero, List.getElem?_cons_succ, Option.getD_some]
            refine wpL_take hOps hS rfl (fun _ _ _ h => h) (yl_move rfl _ rfl) ?_
            simp only [Act.put, Act.eval, List.setIfInBounds_toArray, List.set_cons_zero, List.set_cons_succ, Array.getD_eq_getD_getElem?, List.getElem?_toArray, List.getElem?_cons_zero, List.getElem?_cons_succ, Option.getD_some]
            refine wpL_take hOps hS (v := ?vOp17) rfl (fun _ _ _ h => h) (yl rfl ?yOp17) ?_
            case yOp17 => (intro w hw; go_simp; first | done | rfl)
            simp only [Act.put, Act.eval, List.setIfInBounds_toArray, List.set_cons_zero, List.set_cons_succ, Array.getD_eq_getD_getElem?, List.getElem?_toArray, List.getElem?_cons_zero, List.getElem?_cons_succ, Option.getD_some]
            refine wpL_take hOps hS rfl (fun _ _ _ h => h) (yl_get rfl _ _ rfl rfl (by kernel_rfl) (fun w hw => hck w hw)) ?_
            simp only [Act.put, Act.eval, List.setIfInBounds_toArray, List.set_cons_zero, List.set_cons_succ, Array.getD_eq_getD_getElem?, List.getElem?_toArray, List.getElem?_cons_zero, List.getElem?_cons_succ, Option.getD_some]
            refine wpL_take hOps hS rfl (fun _ _ _ h => h) (yl_move rfl _ rfl) ?_
            simp only [Act.put, Act.eval, List.setIfInBounds_toArray, List.set_cons_zero, List.set_cons_succ, Array.getD_eq_getD_getElem?, List.getElem?_toArray, List.getElem?_cons_zero, List.getElem?_cons_succ, Option.getD_some]
            refine wpL_take hOps hS rfl (fun _ _ _ h => h) (yl_nil rfl _ rfl _ rfl) ?_
            simp only [Act.put, Act.eval, List.setIfInBounds_toArray, List.set_cons_zero, List.set_cons_succ, Array.getD_eq_getD_getElem?, List.getElem?_toArray, List.getElem?_cons_zero, List.getElem?_cons_succ, Option.getD_some]
            refine wpL_take hOps hS (v := ?vOp27) rfl (fun _ _ _ h => h) (yl rfl ?yOp27) ?_
            case yOp27 => (intro w hw; go_simp; first | done | rfl)
            simp only [Act.put, Act.eval, List.setIfInBounds_toArray, List.set_cons_zero, List.set_cons_succ, Array.getD_eq_getD_getElem?, List.getElem?_toArray, List.getElem?_cons_zero, List.getElem?_cons_succ, Option.getD_some]
            refine wpL_take hOps hS rfl (fun _ _ _ h => h) (yl_get rfl _ _ rfl rfl (by kernel_rfl) (fun w hw => raw_at1 (At.heap hw 0 rfl) rfl)) ?_
            simp only [Act.put, Act.eval, List.setIfInBounds_toArray, List.set_cons_zero, List.set_cons_succ, Array.getD_eq_getD_getElem?, List.getElem?_toArray, List.getElem?_cons_zero, List.getElem?_cons_succ, Option.getD_some]
            refine wpL_take hOps hS rfl (fun _ _ _ h => h) (yl_move rfl _ rfl) ?_
            simp only [Act.put, Act.eval, List.setIfInBounds_toArray, List.set_cons_zero, List.set_cons_succ, Array.getD_eq_getD_getElem?, List.getElem?_toArray, List.getElem?_cons_zero, List.getElem?_cons_succ, Option.getD_some]
            refine wpL_take hOps hS (v := ?vOp34) rfl (fun _ _ _ h => h) (yl rfl ?yOp34) ?_
            case yOp34 => (intro w hw; go_simp; first | done | rfl)
            simp only [Act.put, Act.eval, List.setIfInBounds_toArray, List.set_cons_zero, List.set_cons_succ, Array.getD_eq_getD_getElem?, List.getElem?_toArray, List.getElem?_cons_zero, List.getElem?_cons_succ, Option.getD_some]
            refine wpL_take hOps hS rfl (fun _ _ _ h => h) (yl_get rfl _ _ rfl rfl (by kernel_rfl) (fun w hw => hcj w hw)) ?_
            simp only [Act.put, Act.eval, List.setIfInBounds_toArray, List.set_cons_zero, List.set_cons_succ, Array.getD_eq_getD_getElem?, List.getElem?_toArray, List.getElem?_cons_zero, List.getElem?_cons_succ, Option.getD_some]
            refine wpL_take hOps hS (v := ?vOp38) rfl (fun _ _ _ h => h) (yl rfl ?yOp38) ?_
            case yOp38 => (intro w hw; go_simp; first | done | rfl)
            simp only [Act.put, Act.eval, List.setIfInBounds_toArray, List.set_cons_zero, List.set_cons_succ, Array.getD_eq_getD_getElem?, List.getElem?_toArray, List.getElem?_cons_zero, List.getElem?_cons_succ, Option.getD_some]
            refine wpL_end ?_
            clear hOps hS ops
            go_wp2_with fail
            refine wpL_begin 15 (At w0 (raw q #[.slice (some ⟨g, off, none⟩) m c] 31 :: row64 (.slice (some ⟨g, off, none⟩) m c) L :: F)) [(0, true), (1, true), (2, true), (3, true), (4, true), (5, true), (6, true), (7, true), (8, true), (9, true), (10, true), (11, true), (12, true), (13, true), (14, true)] rfl (by kernel_rfl) (by kernel_rfl) ((H.drew)) ?_
            intro ops hOps hS
            replace H := H.drew
            refine wpL_take hOps hS rfl (fun _ _ _ h => h) (yl_move rfl _ rfl) ?_
            simp only [Act.put, Act.eval, List.setIfInBounds_toArray, List.set_cons_zero, List.set_cons_succ, Array.getD_eq_getD_getElem?, List.getElem?_toArray, List.getElem?_cons_zero, List.getElem?_cons_succ, Option.getD_some]
            refine wpL_take hOps hS rfl (fun _ _ _ h => h) (yl_nil rfl _ rfl _ rfl) ?_
            simp only [Act.put, Act.eval, List.setIfInBounds_toArray, List.set_cons_zero, List.set_cons_succ, Array.getD_eq_getD_getElem?, List.getElem?_toArray, List.getElem?_cons_zero, List.getElem?_cons_succ, Option.getD_some]
            refine wpL_take hOps hS (v := ?vOp49) rfl (fun _ _ _ h => h) (yl rfl ?yOp49) ?_
            case yOp49 => (intro w hw; go_simp; first | done | rfl)
            simp only [Act.put, Act.eval, List.setIfInBounds_toArray, List.set_cons_zero, List.set_cons_succ, Array.getD_eq_getD_getElem?, List.getElem?_toArray, List.getElem?_cons_zero, List.getElem?_cons_succ, Option.getD_some]
            refine wpL_take hOps hS rfl (fun _ _ _ h => h) (yl_get rfl _ _ rfl rfl (by kernel_rfl) (fun w hw => raw_at1 (At.heap hw 0 rfl) rfl)) ?_
            simp only [Act.put, Act.eval, List.setIfInBounds_toArray, List.set_cons_zero, List.set_cons_succ, Array.getD_eq_getD_getElem?, List.getElem?_toArray, List.getElem?_cons_zero, List.getElem?_cons_succ, Option.getD_some]
            refine wpL_take hOps hS rfl (fun _ _ _ h => h) (yl_move rfl _ rfl) ?_
            simp only [Act.put, Act.eval, List.setIfInBounds_toArray, List.set_cons_zero, List.set_cons_succ, Array.getD_eq_getD_getElem?, List.getElem?_toArray, List.getElem?_cons_zero, List.getElem?_cons_succ, Option.getD_some]
            refine wpL_take hOps hS (v := ?vOp56) rfl (fun _ _ _ h => h) (yl rfl ?yOp56) ?_
            case yOp56 => (intro w hw; go_simp; first | done | rfl)
            simp only [Act.put, Act.eval, List.setIfInBounds_toArray, List.set_cons_zero, List.set_cons_succ, Array.getD_eq_getD_getElem?, List.getElem?_toArray, List.getElem?_cons_zero, List.getElem?_cons_succ, Option.getD_some]
            refine wpL_take hOps hS rfl (fun _ _ _ h => h) (yl_get rfl _ _ rfl rfl (by kernel_rfl) (fun w hw => hck w hw)) ?_
            simp only [Act.put, Act.eval, List.setIfInBounds_toArray, List.set_cons_zero, List.set_cons_succ, Array.getD_eq_getD_getElem?, List.getElem?_toArray, List.getElem?_cons_zero, List.getElem?_cons_succ, Option.getD_some]
            refine wpL_take hOps hS rfl (fun _ _ _ h => h) (yl_move rfl _ rfl) ?_
            simp only [Act.put, Act.eval, List.setIfInBounds_toArray, List.set_cons_zero, List.set_cons_succ, Array.getD_eq_getD_getElem?, List.getElem?_toArray, List.getElem?_cons_zero, List.getElem?_cons_succ, Option.getD_some]
            refine wpL_take hOps hS rfl (fun _ _ _ h => h) (yl_nil rfl _ rfl _ rfl) ?_
            simp only [Act.put, Act.eval, List.setIfInBounds_toArray, List.set_cons_zero, List.set_cons_succ, Array.getD_eq_getD_getElem?, List.getElem?_toArray, List.getElem?_cons_zero, List.getElem?_cons_succ, Option.getD_some]
            refine wpL_take hOps hS (v := ?vOp66) rfl (fun _ _ _ h => h) (yl rfl ?yOp66) ?_
            case yOp66 => (intro w hw; go_simp; first | done | rfl)
            simp only [Act.put, Act.eval, List.setIfInBounds_toArray, List.set_cons_zero, List.set_cons_succ, Array.getD_eq_getD_getElem?, List.getElem?_toArray, List.getElem?_cons_zero, List.getElem?_cons_succ, Option.getD_some]
            refine wpL_take hOps hS rfl (fun _ _ _ h => h) (yl_get rfl _ _ rfl rfl (by kernel_rfl) (fun w hw => raw_at1 (At.heap hw 0 rfl) rfl)) ?_
            simp only [Act.put, Act.eval, List.setIfInBounds_toArray, List.set_cons_zero, List.set_cons_succ, Array.getD_eq_getD_getElem?, List.getElem?_toArray, List.getElem?_cons_zero, List.getElem?_cons_succ, Option.getD_some]
            refine wpL_take hOps hS rfl (fun _ _ _ h => h) (yl_move rfl _ rfl) ?_
            simp only [Act.put, Act.eval, List.setIfInBounds_toArray, List.set_cons_zero, List.set_cons_succ, Array.getD_eq_getD_getElem?, List.getElem?_toArray, List.getElem?_cons_zero, List.getElem?_cons_succ, Option.getD_some]
            refine wpL_take hOps hS (v := ?vOp73) rfl (fun _ _ _ h => h) (yl rfl ?yOp73) ?_
            case yOp73 => (intro w hw; go_simp; first | done | rfl)
            simp only [Act.put, Act.eval, List.setIfInBounds_toArray, List.set_cons_zero, List.set_cons_succ, Array.getD_eq_getD_getElem?, List.getElem?_toArray, List.getElem?_cons_zero, List.getElem?_cons_succ, Option.getD_some]
            refine wpL_take hOps hS rfl (fun _ _ _ h => h) (yl_get rfl _ _ rfl rfl (by kernel_rfl) (fun w hw => hcj w hw)) ?_
            simp only [Act.put, Act.eval, List.setIfInBounds_toArray, List.set_cons_zero, List.set_cons_succ, Array.getD_eq_getD_getElem?, List.getElem?_toArray, List.getElem?_cons_zero, List.getElem?_cons_succ, Option.getD_some]
            refine wpL_take hOps hS (v := ?vOp77) rfl (fun _ _ _ h => h) (yl rfl ?yOp77) ?_
            case yOp77 => (intro w hw; go_simp; first | done | rfl)
            simp only [Act.put, Act.eval, List.setIfInBounds_toArray, List.set_cons_zero, List.set_cons_succ, Array.getD_eq_getD_getElem?, List.getElem?_toArray, List.getElem?_cons_zero, List.getElem?_cons_succ, Option.getD_some]
            refine wpL_end ?_
            clear hOps hS ops
            go_wp2_with fail
            first
              | (refine ⟨?_, ?measure⟩; iterate 60 (try apply Exists.intro); refine ⟨?rel, rfl⟩)
              | refine ⟨?rel, ?measure⟩
            case rel => exact ⟨(ls + 1), sm, k + 1, by omega, by omega, by omega, by go_num, by go_num, by go_num, N3.out.symm, N4.out.symm, H⟩
            case measure => simp [intOf]; omega
          · by_cases c2 : y = x
            · subst c2
              have N3 := Lib.hid (N1.out.trans (by rw [if_neg (by omega), Nat.add_zero]))
              have N4 := Lib.hid (N2.out.trans (by rw [if_pos rfl]))
              clear N1 N2
              go_wp2_with ((with_reducible refine wpList_op rfl ?_); intro _ hK; refine wp_get _ _ rfl rfl (by kernel_rfl) (raw_at1 (H.heap 0 rfl) rfl) (hK _ _ ?_))
              refine wpL_begin 15 (At w0 (raw q #[.slice (some ⟨g, off, none⟩) m c] 31 :: row64 (.slice (some ⟨g, off, none⟩) m c) L :: F)) [(0, true), (1, true), (2, true), (3, true), (4, true), (5, true), (6, true), (7, true), (8, true), (9, true), (10, true), (11, true), (12, true), (13, true), (14, true)] rfl (by kernel_rfl) (by kernel_rfl) ((H.drew)) ?_
              intro ops hOps hS
              replace H := H.drew
              refine wpL_take hOps hS rfl (fun _ _ _ h => h) (yl_move rfl _ rfl) ?_
              simp only [Act.put, Act.eval, List.setIfInBounds_toArray, List.set_cons_zero, List.set_cons_succ, Array.getD_eq_getD_getElem?, List.getElem?_toArray, List.getElem?_cons_zero, List.getElem?_cons_succ, Option.getD_some]
              refine wpL_take hOps hS rfl (fun _ _ _ h => h) (yl_nil rfl _ rfl _ rfl) ?_
              simp only [Act.put, Act.eval, List.setIfInBounds_toArray, List.set_cons_zero, List.set_cons_succ, Array.getD_eq_getD_getElem?, List.getElem?_toArray, List.getElem?_cons_zero, List.getElem?_cons_succ, Option.getD_some]
              refine wpL_take hOps hS (v := ?vOp90) rfl (fun _ _ _ h => h) (yl rfl ?yOp90) ?_
              case yOp90 => (intro w hw; go_simp; first | done | rfl)
              simp only [Act.put, Act.eval, List.setIfInBounds_toArray, List.set_cons_zero, List.set_cons_succ, Array.getD_eq_getD_getElem?, List.getElem?_toArray, List.getElem?_cons_zero, List.getElem?_cons_succ, Option.getD_some]
              refine wpL_take hOps hS rfl (fun _ _ _ h => h) (yl_get rfl _ _ rfl rfl (by kernel_rfl) (fun w hw => raw_at1 (At.heap hw 0 rfl) rfl)) ?_
              simp only [Act.put, Act.eval, List.setIfInBounds_toArray, List.set_cons_zero, List.set_cons_succ, Array.getD_eq_getD_getElem?, List.getElem?_toArray, List.getElem?_cons_zero, List.getElem?_cons_succ, Option.getD_some]
              refine wpL_take hOps hS rfl (fun _ _ _ h => h) (yl_move rfl _ rfl) ?_
              simp only [Act.put, Act.eval, List.setIfInBounds_toArray, List.set_cons_zero, List.set_cons_succ, Array.getD_eq_getD_getElem?, List.getElem?_toArray, List.getElem?_cons_zero, List.getElem?_cons_succ, Option.getD_some]
              refine wpL_take hOps hS (v := ?vOp97) rfl (fun _ _ _ h => h) (yl rfl ?yOp97) ?_
              case yOp97 => (intro w hw; go_simp; first | done | rfl)
              simp only [Act.put, Act.eval, List.setIfInBounds_toArray, List.set_cons_zero, List.set_cons_succ, Array.getD_eq_getD_getElem?, List.getElem?_toArray, List.getElem?_cons_zero, List.getElem?_cons_succ, Option.getD_some]
              refine wpL_take hOps hS rfl (fun _ _ _ h => h) (yl_get rfl _ _ rfl rfl (by kernel_rfl) (fun w hw => hck w hw)) ?_
              simp only [Act.put, Act.eval, List.setIfInBounds_toArray, List.set_cons_zero, List.set_cons_succ, Array.getD_eq_getD_getElem?, List.getElem?_toArray, List.getElem?_cons_zero, List.getElem?_cons_succ, Option.getD_some]
              refine wpL_take hOps hS rfl (fun _ _ _ h => h) (yl_move rfl _ rfl) ?_
              simp only [Act.put, Act.eval, List.setIfInBounds_toArray, List.set_cons_zero, List.set_cons_succ, Array.getD_eq_getD_getElem?, List.getElem?_toArray, List.getElem?_cons_zero, List.getElem?_cons_succ, Option.getD_some]
              refine wpL_take hOps hS rfl (fun _ _ _ h => h) (yl_nil rfl _ rfl _ rfl) ?_
              simp only [Act.put, Act.eval, List.setIfInBounds_toArray, List.set_cons_zero, List.set_cons_succ, Array.getD_eq_getD_getElem?, List.getElem?_toArray, List.getElem?_cons_zero, List.getElem?_cons_succ, Option.getD_some]
              refine wpL_take hOps hS (v := ?vOp107) rfl (fun _ _ _ h => h) (yl rfl ?yOp107) ?_
              case yOp107 => (intro w hw; go_simp; first | done | rfl)
              simp only [Act.put, Act.eval, List.setIfInBounds_toArray, List.set_cons_zero, List.set_cons_succ, Array.getD_eq_getD_getElem?, List.getElem?_toArray, List.getElem?_cons_zero, List.getElem?_cons_succ, Option.getD_some]
              refine wpL_take hOps hS rfl (fun _ _ _ h => h) (yl_get rfl _ _ rfl rfl (by kernel_rfl) (fun w hw => raw_at1 (At.heap hw 0 rfl) rfl)) ?_
              simp only [Act.put, Act.eval, List.setIfInBounds_toArray, List.set_cons_zero, List.set_cons_succ, Array.getD_eq_getD_getElem?, List.getElem?_toArray, List.getElem?_cons_zero, List.getElem?_cons_succ, Option.getD_some]
              refine wpL_take hOps hS rfl (fun _ _ _ h => h) (yl_move rfl _ rfl) ?_
              simp only [Act.put, Act.eval, List.setIfInBounds_toArray, List.set_cons_zero, List.set_cons_succ, Array.getD_eq_getD_getElem?, List.getElem?_toArray, List.getElem?_cons_zero, List.getElem?_cons_succ, Option.getD_some]
              refine wpL_take hOps hS (v := ?vOp114) rfl (fun _ _ _ h => h) (yl rfl ?yOp114) ?_
              case yOp114 => (intro w hw; go_simp; first | done | rfl)
              simp only [Act.put, Act.eval, List.setIfInBounds_toArray, List.set_cons_zero, List.set_cons_succ, Array.getD_eq_getD_getElem?, List.getElem?_toArray, List.getElem?_cons_zero, List.getElem?_cons_succ, Option.getD_some]
              refine wpL_take hOps hS rfl (fun _ _ _ h => h) (yl_get rfl _ _ rfl rfl (by kernel_rfl) (fun w hw => hcj w hw)) ?_
              simp only [Act.put, Act.eval, List.setIfInBounds_toArray, List.set_cons_zero, List.set_cons_succ, Array.getD_eq_getD_getElem?, List.getElem?_toArray, List.getElem?_cons_zero, List.getElem?_cons_succ, Option.getD_some]
              refine wpL_take hOps hS (v := ?vOp118) rfl (fun _ _ _ h => h) (yl rfl ?yOp118) ?_
              case yOp118 => (intro w hw; go_simp; first | done | rfl)
              simp only [Act.put, Act.eval, List.setIfInBounds_toArray, List.set_cons_zero, List.set_cons_succ, Array.getD_eq_getD_getElem?, List.getElem?_toArray, List.getElem?_cons_zero, List.getElem?_cons_succ, Option.getD_some]
              refine wpL_end ?_
              clear hOps hS ops
              go_wp2_with fail
              refine wpL_begin 15 (At w0 (raw q #[.slice (some ⟨g, off, none⟩) m c] 31 :: row64 (.slice (some ⟨g, off, none⟩) m c) L :: F)) [(0, true), (1, true), (2, true), (3, true), (4, true), (5, true), (6, true), (7, true), (8, true), (9, true), (10, true), (11, true), (12, true), (13, true), (14, true)] rfl (by kernel_rfl) (by kernel_rfl) ((H.drew)) ?_
              intro ops hOps hS
              replace H := H.drew
              refine wpL_take hOps hS rfl (fun _ _ _ h => h) (yl_move rfl _ rfl) ?_
              simp only [Act.put, Act.eval, List.setIfInBounds_toArray, List.set_cons_zero, List.set_cons_succ, Array.getD_eq_getD_getElem?, List.getElem?_toArray, List.getElem?_cons_zero, List.getElem?_cons_succ, Option.getD_some]
              refine wpL_take hOps hS rfl (fun _ _ _ h => h) (yl_nil rfl _ rfl _ rfl) ?_
              simp only [Act.put, Act.eval, List.setIfInBounds_toArray, List.set_cons_zero, List.set_cons_succ, Array.getD_eq_getD_getElem?, List.getElem?_toArray, List.getElem?_cons_zero, List.getElem?_cons_succ, Option.getD_some]
              refine wpL_take hOps hS (v := ?vOp129) rfl (fun _ _ _ h => h) (yl rfl ?yOp129) ?_
              case yOp129 => (intro w hw; go_simp; first | done | rfl)
              simp only [Act.put, Act.eval, List.setIfInBounds_toArray, List.set_cons_zero, List.set_cons_succ, Array.getD_eq_getD_getElem?, List.getElem?_toArray, List.getElem?_cons_zero, List.getElem?_cons_succ, Option.getD_some]
              refine wpL_take hOps hS rfl (fun _ _ _ h => h) (yl_get rfl _ _ rfl rfl (by kernel_rfl) (fun w hw => raw_at1 (At.heap hw 0 rfl) rfl)) ?_
              simp only [Act.put, Act.eval, List.setIfInBounds_toArray, List.set_cons_zero, List.set_cons_succ, Array.getD_eq_getD_getElem?, List.getElem?_toArray, List.getElem?_cons_zero, List.getElem?_cons_succ, Option.getD_some]
              refine wpL_take hOps hS rfl (fun _ _ _ h => h) (yl_move rfl _ rfl) ?_
              simp only [Act.put, Act.eval, List.setIfInBounds_toArray, List.set_cons_zero, List.set_cons_succ, Array.getD_eq_getD_getElem?, List.getElem?_toArray, List.getElem?_cons_zero, List.getElem?_cons_succ, Option.getD_some]
              refine wpL_take hOps hS (v := ?vOp136) rfl (fun _ _ _ h => h) (yl rfl ?yOp136) ?_
              case yOp136 => (intro w hw; go_simp; first | done | rfl)
              simp only [Act.put, Act.eval, List.setIfInBounds_toArray, List.set_cons_zero, List.set_cons_succ, Array.getD_eq_getD_getElem?, List.getElem?_toArray, List.getElem?_cons_zero, List.getElem?_cons_succ, Option.getD_some]
              refine wpL_take hOps hS rfl (fun _ _ _ h => h) (yl_get rfl _ _ rfl rfl (by kernel_rfl) (fun w hw => hck w hw)) ?_
              simp only [Act.put, Act.eval, List.setIfInBounds_toArray, List.set_cons_zero, List.set_cons_succ, Array.getD_eq_getD_getElem?, List.getElem?_toArray, List.getElem?_cons_zero, List.getElem?_cons_succ, Option.getD_some]
              refine wpL_take hOps hS rfl (fun _ _ _ h => h) (yl_move rfl _ rfl) ?_
              simp only [Act.put, Act.eval, List.setIfInBounds_toArray, List.set_cons_zero, List.set_cons_succ, Array.getD_eq_getD_getElem?, List.getElem?_toArray, List.getElem?_cons_zero, List.getElem?_cons_succ, Option.getD_some]
              refine wpL_take hOps hS rfl (fun _ _ _ h => h) (yl_nil rfl _ rfl _ rfl) ?_
              simp only [Act.put, Act.eval, List.setIfInBounds_toArray, List.set_cons_zero, List.set_cons_succ, Array.getD_eq_getD_getElem?, List.getElem?_toArray, List.getElem?_cons_zero, List.getElem?_cons_succ, Option.getD_some]
              refine wpL_take hOps hS (v := ?vOp146) rfl (fun _ _ _ h => h) (yl rfl ?yOp146) ?_
              case yOp146 => (intro w hw; go_simp; first | done | rfl)
              simp only [Act.put, Act.eval, List.setIfInBounds_toArray, List.set_cons_zero, List.set_cons_succ, Array.getD_eq_getD_getElem?, List.getElem?_toArray, List.getElem?_cons_zero, List.getElem?_cons_succ, Option.getD_some]
              refine wpL_take hOps hS rfl (fun _ _ _ h => h) (yl_get rfl _ _ rfl rfl (by kernel_rfl) (fun w hw => raw_at1 (At.heap hw 0 rfl) rfl)) ?_
              simp only [Act.put, Act.eval, List.setIfInBounds_toArray, List.set_cons_zero, List.set_cons_succ, Array.getD_eq_getD_getElem?, List.getElem?_toArray, List.getElem?_cons_zero, List.getElem?_cons_succ, Option.getD_some]
              refine wpL_take hOps hS rfl (fun _ _ _ h => h) (yl_move rfl _ rfl) ?_
              simp only [Act.put, Act.eval, List.setIfInBounds_toArray, List.set_cons_zero, List.set_cons_succ, Array.getD_eq_getD_getElem?, List.getElem?_toArray, List.getElem?_cons_zero, List.getElem?_cons_succ, Option.getD_some]
              refine wpL_take hOps hS (v := ?vOp153) rfl (fun _ _ _ h => h) (yl rfl ?yOp153) ?_
              case yOp153 => (intro w hw; go_simp; first | done | rfl)
              simp only [Act.put, Act.eval, List.setIfInBounds_toArray, List.set_cons_zero, List.set_cons_succ, Array.getD_eq_getD_getElem?, List.getElem?_toArray, List.getElem?_cons_zero, List.getElem?_cons_succ, Option.getD_some]
              refine wpL_take hOps hS rfl (fun _ _ _ h => h) (yl_get rfl _ _ rfl rfl (by kernel_rfl) (fun w hw => hcj w hw)) ?_
              simp only [Act.put, Act.eval, List.setIfInBounds_toArray, List.set_cons_zero, List.set_cons_succ, Array.getD_eq_getD_getElem?, List.getElem?_toArray, List.getElem?_cons_zero, List.getElem?_cons_succ, Option.getD_some]
              refine wpL_take hOps hS (v := ?vOp157) rfl (fun _ _ _ h => h) (yl rfl ?yOp157) ?_
              case yOp157 => (intro w hw; go_simp; first | done | rfl)
              simp only [Act.put, Act.eval, List.setIfInBounds_toArray, List.set_cons_zero, List.set_cons_succ, Array.getD_eq_getD_getElem?, List.getElem?_toArray, List.getElem?_cons_zero, List.getElem?_cons_succ, Option.getD_some]
              refine wpL_end ?_
              clear hOps hS ops
              go_wp2_with fail
              first
                | (refine ⟨?_, ?measure⟩; iterate 60 (try apply Exists.intro); refine ⟨?rel, rfl⟩)
                | refine ⟨?rel, ?measure⟩
              case rel => exact ⟨ls, (sm + 1), k + 1, by omega, by omega, by omega, by go_num, by go_num, by go_num, N3.out.symm, N4.out.symm, H⟩
              case measure => simp [intOf]; omega
            · have N3 := Lib.hid (N1.out.trans (by rw [if_neg (by omega), Nat.add_zero]))
              have N4 := Lib.hid (N2.out.trans (by rw [if_neg (by omega), Nat.add_zero]))
              clear N1 N2
              go_wp2_with ((with_reducible refine wpList_op rfl ?_); intro _ hK; refine wp_get _ _ rfl rfl (by kernel_rfl) (raw_at1 (H.heap 0 rfl) rfl) (hK _ _ ?_))
              refine wpL_begin 15 (At w0 (raw q #[.slice (some ⟨g, off, none⟩) m c] 31 :: row64 (.slice (some ⟨g, off, none⟩) m c) L :: F)) [(0, true), (1, true), (2, true), (3, true), (4, true), (5, true), (6, true), (7, true), (8, true), (9, true), (10, true), (11, true), (12, true), (13, true), (14, true)] rfl (by kernel_rfl) (by kernel_rfl) ((H.drew)) ?_
              intro ops hOps hS
              replace H := H.drew
              refine wpL_take hOps hS rfl (fun _ _ _ h => h) (yl_move rfl _ rfl) ?_
              simp only [Act.put, Act.eval, List.setIfInBounds_toArray, List.set_cons_zero, List.set_cons_succ, Array.getD_eq_getD_getElem?, List.getElem?_toArray, List.getElem?_cons_zero, List.getElem?_cons_succ, Option.getD_some]
              refine wpL_take hOps hS rfl (fun _ _ _ h => h) (yl_nil rfl _ rfl _ rfl) ?_
              simp only [Act.put, Act.eval, List.setIfInBounds_toArray, List.set_cons_zero, List.set_cons_succ, Array.getD_eq_getD_getElem?, List.getElem?_toArray, List.getElem?_cons_zero, List.getElem?_cons_succ, Option.getD_some]
              refine wpL_take hOps hS (v := ?vOp170) rfl (fun _ _ _ h => h) (yl rfl ?yOp170) ?_
              case yOp170 => (intro w hw; go_simp; first | done | rfl)
              simp only [Act.put, Act.eval, List.setIfInBounds_toArray, List.set_cons_zero, List.set_cons_succ, Array.getD_eq_getD_getElem?, List.getElem?_toArray, List.getElem?_cons_zero, List.getElem?_cons_succ, Option.getD_some]
              refine wpL_take hOps hS rfl (fun _ _ _ h => h) (yl_get rfl _ _ rfl rfl (by kernel_rfl) (fun w hw => raw_at1 (At.heap hw 0 rfl) rfl)) ?_
              simp only [Act.put, Act.eval, List.setIfInBounds_toArray, List.set_cons_zero, List.set_cons_succ, Array.getD_eq_getD_getElem?, List.getElem?_toArray, List.getElem?_cons_zero, List.getElem?_cons_succ, Option.getD_some]
              refine wpL_take hOps hS rfl (fun _ _ _ h => h) (yl_move rfl _ rfl) ?_
              simp only [Act.put, Act.eval, List.setIfInBounds_toArray, List.set_cons_zero, List.set_cons_succ, Array.getD_eq_getD_getElem?, List.getElem?_toArray, List.getElem?_cons_zero, List.getElem?_cons_succ, Option.getD_some]
              refine wpL_take hOps hS (v := ?vOp177) rfl (fun _ _ _ h => h) (yl rfl ?yOp177) ?_
              case yOp177 => (intro w hw; go_simp; first | done | rfl)
              simp only [Act.put, Act.eval, List.setIfInBounds_toArray, List.set_cons_zero, List.set_cons_succ, Array.getD_eq_getD_getElem?, List.getElem?_toArray, List.getElem?_cons_zero, List.getElem?_cons_succ, Option.getD_some]
              refine wpL_take hOps hS rfl (fun _ _ _ h => h) (yl_get rfl _ _ rfl rfl (by kernel_rfl) (fun w hw => hck w hw)) ?_
              simp only [Act.put, Act.eval, List.setIfInBounds_toArray, List.set_cons_zero, List.set_cons_succ, Array.getD_eq_getD_getElem?, List.getElem?_toArray, List.getElem?_cons_zero, List.getElem?_cons_succ, Option.getD_some]
              refine wpL_take hOps hS rfl (fun _ _ _ h => h) (yl_move rfl _ rfl) ?_
              simp only [Act.put, Act.eval, List.setIfInBounds_toArray, List.set_cons_zero, List.set_cons_succ, Array.getD_eq_getD_getElem?, List.getElem?_toArray, List.getElem?_cons_zero, List.getElem?_cons_succ, Option.getD_some]
              refine wpL_take hOps hS rfl (fun _ _ _ h => h) (yl_nil rfl _ rfl _ rfl) ?_
              simp only [Act.put, Act.eval, List.setIfInBounds_toArray, List.set_cons_zero, List.set_cons_succ, Array.getD_eq_getD_getElem?, List.getElem?_toArray, List.getElem?_cons_zero, List.getElem?_cons_succ, Option.getD_some]
              refine wpL_take hOps hS (v := ?vOp187) rfl (fun _ _ _ h => h) (yl rfl ?yOp187) ?_
              case yOp187 => (intro w hw; go_simp; first | done | rfl)
              simp only [Act.put, Act.eval, List.setIfInBounds_toArray, List.set_cons_zero, List.set_cons_succ, Array.getD_eq_getD_getElem?, List.getElem?_toArray, List.getElem?_cons_zero, List.getElem?_cons_succ, Option.getD_some]
              refine wpL_take hOps hS rfl (fun _ _ _ h => h) (yl_get rfl _ _ rfl rfl (by kernel_rfl) (fun w hw => raw_at1 (At.heap hw 0 rfl) rfl)) ?_
              simp only [Act.put, Act.eval, List.setIfInBounds_toArray, List.set_cons_zero, List.set_cons_succ, Array.getD_eq_getD_getElem?, List.getElem?_toArray, List.getElem?_cons_zero, List.getElem?_cons_succ, Option.getD_some]
              refine wpL_take hOps hS rfl (fun _ _ _ h => h) (yl_move rfl _ rfl) ?_
              simp only [Act.put, Act.eval, List.setIfInBounds_toArray, List.set_cons_zero, List.set_cons_succ, Array.getD_eq_getD_getElem?, List.getElem?_toArray, List.getElem?_cons_zero, List.getElem?_cons_succ, Option.getD_some]
              refine wpL_take hOps hS (v := ?vOp194) rfl (fun _ _ _ h => h) (yl rfl ?yOp194) ?_
              case yOp194 => (intro w hw; go_simp; first | done | rfl)
              simp only [Act.put, Act.eval, List.setIfInBounds_toArray, List.set_cons_zero, List.set_cons_succ, Array.getD_eq_getD_getElem?, List.getElem?_toArray, List.getElem?_cons_zero, List.getElem?_cons_succ, Option.getD_some]
              refine wpL_take hOps hS rfl (fun _ _ _ h => h) (yl_get rfl _ _ rfl rfl (by kernel_rfl) (fun w hw => hcj w hw)) ?_
              simp only [Act.put, Act.eval, List.setIfInBounds_toArray, List.set_cons_zero, List.set_cons_succ, Array.getD_eq_getD_getElem?, List.getElem?_toArray, List.getElem?_cons_zero, List.getElem?_cons_succ, Option.getD_some]
              refine wpL_take hOps hS (v := ?vOp198) rfl (fun _ _ _ h => h) (yl rfl ?yOp198) ?_
              case yOp198 => (intro w hw; go_simp; first | done | rfl)
              simp only [Act.put, Act.eval, List.setIfInBounds_toArray, List.set_cons_zero, List.set_cons_succ, Array.getD_eq_getD_getElem?, List.getElem?_toArray, List.getElem?_cons_zero, List.getElem?_cons_succ, Option.getD_some]
              refine wpL_end ?_
              clear hOps hS ops
              go_wp2_with fail
              refine wpL_begin 15 (At w0 (raw q #[.slice (some ⟨g, off, none⟩) m c] 31 :: row64 (.slice (some ⟨g, off, none⟩) m c) L :: F)) [(0, true), (1, true), (2, true), (3, true), (4, true), (5, true), (6, true), (7, true), (8, true), (9, true), (10, true), (11, true), (12, true), (13, true), (14, true)] rfl (by kernel_rfl) (by kernel_rfl) ((H.drew)) ?_
              intro ops hOps hS
              replace H := H.drew
              refine wpL_take hOps hS rfl (fun _ _ _ h => h) (yl_move rfl _ rfl) ?_
              simp only [Act.put, Act.eval, List.setIfInBounds_toArray, List.set_cons_zero, List.set_cons_succ, Array.getD_eq_getD_getElem?, List.getElem?_toArray, List.getElem?_cons_zero, List.getElem?_cons_succ, Option.getD_some]
              refine wpL_take hOps hS rfl (fun _ _ _ h => h) (yl_nil rfl _ rfl _ rfl) ?_
              simp only [Act.put, Act.eval, List.setIfInBounds_toArray, List.set_cons_zero, List.set_cons_succ, Array.getD_eq_getD_getElem?, List.getElem?_toArray, List.getElem?_cons_zero, List.getElem?_cons_succ, Option.getD_some]
              refine wpL_take hOps hS (v := ?vOp209) rfl (fun _ _ _ h => h) (yl rfl ?yOp209) ?_
              case yOp209 => (intro w hw; go_simp; first | done | rfl)
              simp only [Act.put, Act.eval, List.setIfInBounds_toArray, List.set_cons_zero, List.set_cons_succ, Array.getD_eq_getD_getElem?, List.getElem?_toArray, List.getElem?_cons_zero, List.getElem?_cons_succ, Option.getD_some]
              refine wpL_take hOps hS rfl (fun _ _ _ h => h) (yl_get rfl _ _ rfl rfl (by kernel_rfl) (fun w hw => raw_at1 (At.heap hw 0 rfl) rfl)) ?_
              simp only [Act.put, Act.eval, List.setIfInBounds_toArray, List.set_cons_zero, List.set_cons_succ, Array.getD_eq_getD_getElem?, List.getElem?_toArray, List.getElem?_cons_zero, List.getElem?_cons_succ, Option.getD_some]
              refine wpL_take hOps hS rfl (fun _ _ _ h => h) (yl_move rfl _ rfl) ?_
              simp only [Act.put, Act.eval, List.setIfInBounds_toArray, List.set_cons_zero, List.set_cons_succ, Array.getD_eq_getD_getElem?, List.getElem?_toArray, List.getElem?_cons_zero, List.getElem?_cons_succ, Option.getD_some]
              refine wpL_take hOps hS (v := ?vOp216) rfl (fun _ _ _ h => h) (yl rfl ?yOp216) ?_
              case yOp216 => (intro w hw; go_simp; first | done | rfl)
              simp only [Act.put, Act.eval, List.setIfInBounds_toArray, List.set_cons_zero, List.set_cons_succ, Array.getD_eq_getD_getElem?, List.getElem?_toArray, List.getElem?_cons_zero, List.getElem?_cons_succ, Option.getD_some]
              refine wpL_take hOps hS rfl (fun _ _ _ h => h) (yl_get rfl _ _ rfl rfl (by kernel_rfl) (fun w hw => hck w hw)) ?_
              simp only [Act.put, Act.eval, List.setIfInBounds_toArray, List.set_cons_zero, List.set_cons_succ, Array.getD_eq_getD_getElem?, List.getElem?_toArray, List.getElem?_cons_zero, List.getElem?_cons_succ, Option.getD_some]
              refine wpL_take hOps hS rfl (fun _ _ _ h => h) (yl_move rfl _ rfl) ?_
              simp only [Act.put, Act.eval, List.setIfInBounds_toArray, List.set_cons_zero, List.set_cons_succ, Array.getD_eq_getD_getElem?, List.getElem?_toArray, List.getElem?_cons_zero, List.getElem?_cons_succ, Option.getD_some]
              refine wpL_take hOps hS rfl (fun _ _ _ h => h) (yl_nil rfl _ rfl _ rfl) ?_
              simp only [Act.put, Act.eval, List.setIfInBounds_toArray, List.set_cons_zero, List.set_cons_succ, Array.getD_eq_getD_getElem?, List.getElem?_toArray, List.getElem?_cons_zero, List.getElem?_cons_succ, Option.getD_some]
              refine wpL_take hOps hS (v := ?vOp226) rfl (fun _ _ _ h => h) (yl rfl ?yOp226) ?_
              case yOp226 => (intro w hw; go_simp; first | done | rfl)
              simp only [Act.put, Act.eval, List.setIfInBounds_toArray, List.set_cons_zero, List.set_cons_succ, Array.getD_eq_getD_getElem?, List.getElem?_toArray, List.getElem?_cons_zero, List.getElem?_cons_succ, Option.getD_some]
              refine wpL_take hOps hS rfl (fun _ _ _ h => h) (yl_get rfl _ _ rfl rfl (by kernel_rfl) (fun w hw => raw_at1 (At.heap hw 0 rfl) rfl)) ?_
              simp only [Act.put, Act.eval, List.setIfInBounds_toArray, List.set_cons_zero, List.set_cons_succ, Array.getD_eq_getD_getElem?, List.getElem?_toArray, List.getElem?_cons_zero, List.getElem?_cons_succ, Option.getD_some]
              refine wpL_take hOps hS rfl (fun _ _ _ h => h) (yl_move rfl _ rfl) ?_
              simp only [Act.put, Act.eval, List.setIfInBounds_toArray, List.set_cons_zero, List.set_cons_succ, Array.getD_eq_getD_getElem?, List.getElem?_toArray, List.getElem?_cons_zero, List.getElem?_cons_succ, Option.getD_some]
              refine wpL_take hOps hS (v := ?vOp233) rfl (fun _ _ _ h => h) (yl rfl ?yOp233) ?_
              case yOp233 => (intro w hw; go_simp; first | done | rfl)
              simp only [Act.put, Act.eval, List.setIfInBounds_toArray, List.set_cons_zero, List.set_cons_succ, Array.getD_eq_getD_getElem?, List.getElem?_toArray, List.getElem?_cons_zero, List.getElem?_cons_succ, Option.getD_some]
              refine wpL_take hOps hS rfl (fun _ _ _ h => h) (yl_get rfl _ _ rfl rfl (by kernel_rfl) (fun w hw => hcj w hw)) ?_
              simp only [Act.put, Act.eval, List.setIfInBounds_toArray, List.set_cons_zero, List.set_cons_succ, Array.getD_eq_getD_getElem?, List.getElem?_toArray, List.getElem?_cons_zero, List.getElem?_cons_succ, Option.getD_some]
              refine wpL_take hOps hS (v := ?vOp237) rfl (fun _ _ _ h => h) (yl rfl ?yOp237) ?_
              case yOp237 => (intro w hw; go_simp; first | done | rfl)
              simp only [Act.put, Act.eval, List.setIfInBounds_toArray, List.set_cons_zero, List.set_cons_succ, Array.getD_eq_getD_getElem?, List.getElem?_toArray, List.getElem?_cons_zero, List.getElem?_cons_succ, Option.getD_some]
              refine wpL_end ?_
              clear hOps hS ops
              go_wp2_with fail
              first
                | (refine ⟨?_, ?measure⟩; iterate 60 (try apply Exists.intro); refine ⟨?rel, rfl⟩)
                | refine ⟨?rel, ?measure⟩
              case rel => exact ⟨ls, sm, k + 1, by omega, by omega, by omega, by go_num, by go_num, by go_num, N3.out.symm, N4.out.symm, H⟩
              case measure => simp [intOf]; omega
        · have hkm : k = m := by omega
          subst hkm
          have hl1 : ls = less L x := by have := H1.out; rwa [List.take_of_length_le (by rw [HL.out]; omega)] at this
          have hl2 : sm = same L x := by have := H2.out; rwa [List.take_of_length_le (by rw [HL.out]; omega)] at this
          have hx := HX.out
          by_cases c1 : (ls : Int) ≤ n
          · by_cases c2 : (n : Int) < (ls : Int) + sm
            · have HF := Lib.hid (rank_found (xs := L) (x := x) (n := n) (by omega) (by omega))
              clear hl1 hl2 hx
              have hc := hcj _ H
              go_wp2_with ((with_reducible refine wpList_op rfl ?_); intro _ hK; refine wp_get _ _ rfl rfl (by kernel_rfl) (raw_at1 (H.heap 0 rfl) rfl) (hK _ _ ?_))
              go_ret
              rw [HF.out]
              exact ⟨rfl, H⟩
            · have HF := Lib.hid (show ¬ (less L (gz L j) ≤ n ∧ n < less L (gz L j) + same L (gz L j)) by rw [← hx, ← hl1, ← hl2]; omega)
              clear hl1 hl2 hx
              go_wp2_with ((with_reducible refine wpList_op rfl ?_); intro _ hK; refine wp_get _ _ rfl rfl (by kernel_rfl) (raw_at1 (H.heap 0 rfl) rfl) (hK _ _ ?_))
              first
                | (refine ⟨?_, ?measure⟩; iterate 60 (try apply Exists.intro); refine ⟨?rel, rfl⟩)
                | refine ⟨?rel, ?measure⟩
              case rel => exact ⟨j + 1, by omega, by go_num, fun i hi => (by by_cases e : i = j; (subst e; exact HF.out); exact HR.out i (by omega)), H⟩
              case measure => simp [intOf]; omega
          · have HF := Lib.hid (show ¬ (less L (gz L j) ≤ n ∧ n < less L (gz L j) + same L (gz L j)) by rw [← hx, ← hl1, ← hl2]; omega)
            clear hl1 hl2 hx
            go_wp2_with ((with_reducible refine wpList_op rfl ?_); intro _ hK; refine wp_get _ _ rfl rfl (by kernel_rfl) (raw_at1 (H.heap 0 rfl) rfl) (hK _ _ ?_))
            first
              | (refine ⟨?_, ?measure⟩; iterate 60 (try apply Exists.intro); refine ⟨?rel, rfl⟩)
              | refine ⟨?rel, ?measure⟩
            case rel => exact ⟨j + 1, by omega, by go_num, fun i hi => (by by_cases e : i = j; (subst e; exact HF.out); exact HR.out i (by omega)), H⟩
            case measure => simp [intOf]; omega
    · have hjm : j = m := by omega
      subst hjm
      have HF := Lib.hid (rank_none (xs := L) (n := n) (fun i hi => HR.out i (by have := HL.out; omega)))
      go_wp2_with ((with_reducible refine wpList_op rfl ?_); intro _ hK; refine wp_get _ _ rfl rfl (by kernel_rfl) (raw_at1 (H.heap 0 rfl) rfl) (hK _ _ ?_))
      go_ret
      rw [HF.out]
      exact ⟨rfl, H⟩
theorem nth_c {w0 w : World} {F : List SP} {q : Nat} {L : List Int} (H : At w0 (rsk q L :: F) w) (hL : L.length ≤ 16) (n : Nat) (hn : (n : Int) ≤ 100) :
    Calls Try.prog 18 #[.pointer (some ⟨q, 0, none⟩), .int .i64 n] w fun e w' => e = .returned (.int .i64 (gz (srt L) n)) ∧ At w0 (rsk q L :: F) w' := by
  obtain ⟨a, c, H⟩ := rsk_open H
  refine (nth_raw H rfl hL n hn).mono ?_
  rintro e w' ⟨rfl, H⟩
  exact ⟨rfl, rsk_shut H⟩
end Go.Proofs.Ythhmgodnmgmjdaa
