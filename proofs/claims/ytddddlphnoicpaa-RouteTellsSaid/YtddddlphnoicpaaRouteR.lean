/-
  The document's answer for a route: Draw, as the program's own.
-/
import Derived.Test.YtddddlphnoicpaaRouteC
namespace Go.Proofs.Ytddddlphnoicpaa
open Go.RowKit Go.Hg
set_option linter.unusedSimpArgs false
set_option linter.unusedVariables false
def RowR (w0 : World) (F : List SP) (xs : List Int) (last : Int) (j : Nat) (th : Bool) (ls : List Int) (a1 : Option Addr) (c1 : Nat) (w : World) : Prop :=
  (∀ i, i < j → 0 < i → gz xs (i - 1) < gz xs i) ∧ th = decide (last ∈ xs.take j) ∧ ls = others last (xs.take j) ∧ ls.length ≤ j ∧ At w0 (lrow 25 1 (ic .u16) (.slice a1 ls.length c1) ls :: F) w
theorem mem_snoc {xs : List Int} {j : Nat} (h : j < xs.length) (last : Int) : last ∈ xs.take (j + 1) ↔ last ∈ xs.take j ∨ gz xs j = last := by
  rw [take_snoc (gz_get h), List.mem_append, List.mem_singleton]
  exact ⟨fun h => h.imp id Eq.symm, fun h => h.imp id Eq.symm⟩
def RDrawR (w0 : World) (F : List SP) (ws L0 : List Int) (n0 j : Nat) (out left : List Int) (a1 : Option Addr) (c1 : Nat) (a2 : Option Addr) (c2 : Nat) (w : World) : Prop :=
  drawn (ws.take j) L0 = (out, left) ∧ out.length = j ∧ left.length + j = n0 ∧ At w0 (lrow 25 1 (ic .u16) (.slice a1 out.length c1) out :: lrow 25 1 (ic .u16) (.slice a2 left.length c2) left :: F) w
set_option maxRecDepth 10000 in
set_option maxHeartbeats 4000000 in
theorem rdraw_c {w0 w : World} {F : List SP} {vw v : Value} {ws xs : List Int} (H : At w0 F w) (hw : Sees w0 F .u64 vw ws) (hv : Sees w0 F .u16 v xs) (hwb : ∀ x ∈ ws, 0 ≤ x ∧ x ≤ 18446744073709551615) (hl : xs.length ≤ 1000000) (hops last : Int) :
    Calls Try.prog 10 #[vw, v, .int .i64 hops, .int .u16 last] w fun e w' => ∃ a cap, e = .returned (.tuple #[.slice a (drawR ws xs hops last).length cap, .int .i64 (drawN ws xs hops last), .int .i64 (wrongZ ws.length xs hops last)]) ∧ At w0 (lrow 25 1 (ic .u16) (.slice a (drawR ws xs hops last).length cap) (drawR ws xs hops last) :: F) w' := by
  have fail : ∀ z, z ≠ 0 → wrongZ ws.length xs hops last = z → drawR ws xs hops last = [] ∧ drawN ws xs hops last = 0 := fun z h0 h => by
    unfold drawR drawN
    rw [if_neg (by rw [h]; exact h0), if_neg (by rw [h]; exact h0)]
    exact ⟨rfl, rfl⟩
  obtain ⟨wa, wcap, wb, woff, rfl, hwc, hwa, hwcell⟩ := hw
  obtain ⟨a, cap, b, off, rfl, hc, ha, hcell⟩ := hv
  by_cases h1 : hops < 1
  · have hz : wrongZ ws.length xs hops last = 1 := if_pos (.inl h1)
    have HF := Lib.hid (fail _ (by omega) hz)
    have HZ := Lib.hid hz
    clear hz fail
    go_enter Try.func10, Try.ntmps10
    go_wp2
    go_ret3
    rw [HZ.out, HF.out.1, HF.out.2]
    exact ⟨none, 0, rfl, lrow_nil H (ic .u16) 25 1⟩
  by_cases h2 : 5 < hops
  · have hz : wrongZ ws.length xs hops last = 1 := if_pos (.inr (.inl h2))
    have HF := Lib.hid (fail _ (by omega) hz)
    have HZ := Lib.hid hz
    clear hz fail
    go_enter Try.func10, Try.ntmps10
    go_wp2
    go_ret3
    rw [HZ.out, HF.out.1, HF.out.2]
    exact ⟨none, 0, rfl, lrow_nil H (ic .u16) 25 1⟩
  by_cases h3 : 16 < (xs.length : Int)
  · have hz : wrongZ ws.length xs hops last = 1 := if_pos (.inr (.inr (.inl h3)))
    have HF := Lib.hid (fail _ (by omega) hz)
    have HZ := Lib.hid hz
    clear hz fail
    go_enter Try.func10, Try.ntmps10
    go_wp2
    go_ret3
    rw [HZ.out, HF.out.1, HF.out.2]
    exact ⟨none, 0, rfl, lrow_nil H (ic .u16) 25 1⟩
  obtain ⟨m, rfl⟩ : ∃ m : Nat, hops = (m : Int) + 1 := ⟨(hops - 1).toNat, by omega⟩
  have FAIL := Lib.hid fail
  clear fail
  have hll : (xs.length : Int) ≤ 16 := by omega
  have hm4 : (m : Int) ≤ 4 := by omega
  have H' := lrow_nil H (ic .u16) 25 1
  clear H h1 h2 h3
  go_enter Try.func10, Try.ntmps10
  go_wp2_with fail
  go_loopw [11, 12, 13] (fun t l i wr => ∃ (j : Nat) (th : Bool) (ls : List Int) (a1 : Option Addr) (c1 : Nat), j ≤ xs.length ∧ i = .int .i64 j ∧ t = .bool th ∧ l = .slice a1 ls.length c1 ∧ RowR w0 F xs last j th ls a1 c1 wr) (fun _ _ i _ => xs.length - (intOf i).toNat)
  case atStart => exact ⟨0, false, [], none, 0, by omega, rfl, rfl, rfl, fun i h => absurd h (by omega), by simp, rfl, by simp, H'⟩
  case round =>
    clear H'
    obtain ⟨j, th, ls, a1, c1, hj, rfl, rfl, rfl, hr, hth, hls, hlj, H⟩ := hrel
    have HR := Lib.hid hr
    have HTH := Lib.hid hth
    have HLS := Lib.hid hls
    clear hr hth hls
    by_cases hlt : (j : Int) < xs.length
    · obtain rfl := ha (by omega)
      replace hcell : ∀ {X : SP} (w' : World), At w0 (X :: F) w' → ∀ i, i < xs.length → w'.cell? ⟨b, off + i, none⟩ = some (.int .u16 (gz xs i)) := fun w' h => hcell w' h.tail
      by_cases h0 : j = 0
      · subst h0
        have HR1 := Lib.hid (show ∀ i, i < 0 + 1 → 0 < i → gz xs (i - 1) < gz xs i from fun i h h' => by omega)
        go_wp2_with fail
        refine wpL_begin 14 (At w0 (lrow 25 1 (ic .u16) (.slice a1 ls.length c1) ls :: F)) [(0, true), (1, true), (2, true), (3, true), (4, true), (5, true), (6, true), (7, true), (8, true), (9, true), (10, true), (11, true), (12, true), (13, true)] rfl (by kernel_rfl) (by kernel_rfl) ((H.drew)) ?_
        intro ops hOps hS
        replace H := H.drew
        refine wpL_take hOps hS rfl (fun _ _ _ h => h) (yl_move rfl _ rfl) ?_
        simp only [Act.put, Act.eval, List.setIfInBounds_toArray, List.set_cons_zero, List.set_cons_succ, Array.getD_eq_getD_getElem?, List.getElem?_toArray, List.getElem?_cons_zero, List.getElem?_cons_succ, Option.getD_some]
        refine wpL_take hOps hS (v := ?vOp5) rfl (fun _ _ _ h => h) (yl rfl ?yOp5) ?_
        case yOp5 => (intro w hw; go_simp; first | done | rfl)
        simp only [Act.put, Act.eval, List.setIfInBounds_toArray, List.set_cons_zero, List.set_cons_succ, Array.getD_eq_getD_getElem?, List.getElem?_toArray, List.getElem?_cons_zero, List.getElem?_cons_succ, Option.getD_some]
        refine wpL_take hOps hS rfl (fun _ _ _ h => h) (yl_move rfl _ rfl) ?_
        simp only [Act.put, Act.eval, List.setIfInBounds_toArray, List.set_cons_zero, List.set_cons_succ, Array.getD_eq_getD_getElem?, List.getElem?_toArray, List.getElem?_cons_zero, List.getElem?_cons_succ, Option.getD_some]
        refine wpL_take hOps hS rfl (fun _ _ _ h => h) (yn rfl) ?_
        simp only [Act.put, Act.eval, List.setIfInBounds_toArray, List.set_cons_zero, List.set_cons_succ, Array.getD_eq_getD_getElem?, List.getElem?_toArray, List.getElem?_cons_zero, List.getElem?_cons_succ, Option.getD_some]
        refine wpL_take hOps hS rfl (fun _ _ _ h => h) (yn rfl) ?_
        simp only [Act.put, Act.eval, List.setIfInBounds_toArray, List.set_cons_zero, List.set_cons_succ, Array.getD_eq_getD_getElem?, List.getElem?_toArray, List.getElem?_cons_zero, List.getElem?_cons_succ, Option.getD_some]
        refine wpL_take hOps hS rfl (fun _ _ _ h => h) (yn rfl) ?_
        simp only [Act.put, Act.eval, List.setIfInBounds_toArray, List.set_cons_zero, List.set_cons_succ, Array.getD_eq_getD_getElem?, List.getElem?_toArray, List.getElem?_cons_zero, List.getElem?_cons_succ, Option.getD_some]
        refine wpL_take hOps hS rfl (fun _ _ _ h => h) (yn rfl) ?_
        simp only [Act.put, Act.eval, List.setIfInBounds_toArray, List.set_cons_zero, List.set_cons_succ, Array.getD_eq_getD_getElem?, List.getElem?_toArray, List.getElem?_cons_zero, List.getElem?_cons_succ, Option.getD_some]
        refine wpL_take hOps hS rfl (fun _ _ _ h => h) (yn rfl) ?_
        simp only [Act.put, Act.eval, List.setIfInBounds_toArray, List.set_cons_zero, List.set_cons_succ, Array.getD_eq_getD_getElem?, List.getElem?_toArray, List.getElem?_cons_zero, List.getElem?_cons_succ, Option.getD_some]
        refine wpL_take hOps hS rfl (fun _ _ _ h => h) (yn rfl) ?_
        simp only [Act.put, Act.eval, List.setIfInBounds_toArray, List.set_cons_zero, List.set_cons_succ, Array.getD_eq_getD_getElem?, List.getElem?_toArray, List.getElem?_cons_zero, List.getElem?_cons_succ, Option.getD_some]
        refine wpL_take hOps hS rfl (fun _ _ _ h => h) (yn rfl) ?_
        simp only [Act.put, Act.eval, List.setIfInBounds_toArray, List.set_cons_zero, List.set_cons_succ, Array.getD_eq_getD_getElem?, List.getElem?_toArray, List.getElem?_cons_zero, List.getElem?_cons_succ, Option.getD_some]
        refine wpL_take hOps hS rfl (fun _ _ _ h => h) (yn rfl) ?_
        simp only [Act.put, Act.eval, List.setIfInBounds_toArray, List.set_cons_zero, List.set_cons_succ, Array.getD_eq_getD_getElem?, List.getElem?_toArray, List.getElem?_cons_zero, List.getElem?_cons_succ, Option.getD_some]
        refine wpL_take hOps hS rfl (fun _ _ _ h => h) (yn rfl) ?_
        simp only [Act.put, Act.eval, List.setIfInBounds_toArray, List.set_cons_zero, List.set_cons_succ, Array.getD_eq_getD_getElem?, List.getElem?_toArray, List.getElem?_cons_zero, List.getElem?_cons_succ, Option.getD_some]
        refine wpL_take hOps hS rfl (fun _ _ _ h => h) (yn rfl) ?_
        simp only [Act.put, Act.eval, List.setIfInBounds_toArray, List.set_cons_zero, List.set_cons_succ, Array.getD_eq_getD_getElem?, List.getElem?_toArray, List.getElem?_cons_zero, List.getElem?_cons_succ, Option.getD_some]
        refine wpL_take hOps hS (v := ?vOp30) rfl (fun _ _ _ h => h) (yl rfl ?yOp30) ?_
        case yOp30 => (intro w hw; go_simp; first | done | rfl)
        simp only [Act.put, Act.eval, List.setIfInBounds_toArray, List.set_cons_zero, List.set_cons_succ, Array.getD_eq_getD_getElem?, List.getElem?_toArray, List.getElem?_cons_zero, List.getElem?_cons_succ, Option.getD_some]
        refine wpL_end ?_
        clear hOps hS ops
        have HLJ := Lib.hid hlj
        by_cases he : gz xs 0 = last
        · have hm2 := Lib.hid (show true = decide (last ∈ xs.take (0 + 1)) from (decide_eq_true ((mem_snoc (by omega) last).2 (.inr he))).symm)
          have hs2 := Lib.hid (show ls = others last (xs.take (0 + 1)) by rw [others_snoc (by omega), if_pos he, List.append_nil]; exact HLS.out)
          have HE := Lib.hid he
          have hcj := hcell _ H 0 (by omega)
          rw [he] at hcj
          clear he
          try simp only [Nat.add_zero] at hcj
          go_wp2
          first
            | (refine ⟨?_, ?measure⟩; iterate 60 (try apply Exists.intro); refine ⟨?rel, rfl⟩)
            | refine ⟨?rel, ?measure⟩
          case rel => exact ⟨1, true, ls, _, _, by omega, by go_num, rfl, rfl, HR1.out, hm2.out, hs2.out, by have := HLJ.out; omega, H⟩
          case measure => simp [intOf]; omega
        · have hm2 := Lib.hid (show th = decide (last ∈ xs.take (0 + 1)) by rw [HTH.out]; exact decide_eq_decide.2 ⟨fun h => (mem_snoc (by omega) last).2 (.inl h), fun h => ((mem_snoc (by omega) last).1 h).resolve_right he⟩)
          have hs2 := Lib.hid (show ls ++ [gz xs 0] = others last (xs.take (0 + 1)) by rw [others_snoc (by omega), if_neg he, ← HLS.out])
          have hcj := hcell _ H 0 (by omega)
          try simp only [Nat.add_zero] at hcj
          go_wp2_with ((with_reducible refine wpList_op rfl ?_); intro _ hK; first | (refine wp_lbuild el_a (y := gz xs 0) _ under_Addrs _ rfl rfl rfl (by omega) (by omega) H (fun C w' H => hK _ _ ?_)) | (refine wp_lapp_one el_a (y := gz xs 0) _ under_Addrs _ _ rfl rfl (H.pull 1 rfl) rfl 0 rfl rfl (by simp only [maxLen]; omega) (by omega) (fun bb cc w' H => hK _ _ ?_)))
          first
            | (refine ⟨?_, ?measure⟩; iterate 60 (try apply Exists.intro); refine ⟨?rel, rfl⟩)
            | refine ⟨?rel, ?measure⟩
          case rel => exact ⟨1, th, ls ++ [gz xs 0], _, _, by omega, by go_num, rfl, by simp, HR1.out, hm2.out, hs2.out, by have := HLJ.out; rw [List.length_append]; simp only [List.length_cons, List.length_nil]; omega, H.maskR [true, false]⟩
          case measure => simp [intOf]; omega
      · obtain ⟨q, rfl⟩ : ∃ q, j = q + 1 := ⟨j - 1, by omega⟩
        have hw1 : IntKind.i64.wrap (((q + 1 : Nat) : Int) - 1) = (q : Int) := by rw [IntKind.wrap_i64]; omega
        have hw2 : IntKind.i64.wrap ((q : Int) + 1 - 1) = (q : Int) := by rw [IntKind.wrap_i64]; omega
        have hw3 : IntKind.i64.wrap (q : Int) = (q : Int) := by rw [IntKind.wrap_i64]; omega
        have hq0 : (0 : Int) < (q : Int) + 1 := by omega
        have hq1 : (q : Int) < xs.length := by omega
        have hq2 : (q : Int) + 1 < xs.length := by omega
        go_wp2_with fail
        refine wpL_begin 14 (At w0 (lrow 25 1 (ic .u16) (.slice a1 ls.length c1) ls :: F)) [(0, true), (1, true), (2, true), (3, true), (4, true), (5, true), (6, true), (7, true), (8, true), (9, true), (10, true), (11, true), (12, true), (13, true)] rfl (by kernel_rfl) (by kernel_rfl) ((H.drew)) ?_
        intro ops hOps hS
        replace H := H.drew
        refine wpL_take hOps hS rfl (fun _ _ _ h => h) (yl_move rfl _ rfl) ?_
        simp only [Act.put, Act.eval, List.setIfInBounds_toArray, List.set_cons_zero, List.set_cons_succ, Array.getD_eq_getD_getElem?, List.getElem?_toArray, List.getElem?_cons_zero, List.getElem?_cons_succ, Option.getD_some]
        refine wpL_take hOps hS (v := ?vOp40) rfl (fun _ _ _ h => h) (yl rfl ?yOp40) ?_
        case yOp40 => (intro w hw; go_simp; first | done | rfl)
        simp only [Act.put, Act.eval, List.setIfInBounds_toArray, List.set_cons_zero, List.set_cons_succ, Array.getD_eq_getD_getElem?, List.getElem?_toArray, List.getElem?_cons_zero, List.getElem?_cons_succ, Option.getD_some]
        first | rw [show decide ((0 : Int) < (q : Int) + 1) = true from decide_eq_true hq0] | skip
        refine wpL_take hOps hS rfl (fun _ _ _ h => h) (yl_move rfl _ rfl) ?_
        simp only [Act.put, Act.eval, List.setIfInBounds_toArray, List.set_cons_zero, List.set_cons_succ, Array.getD_eq_getD_getElem?, List.getElem?_toArray, List.getElem?_cons_zero, List.getElem?_cons_succ, Option.getD_some]
        refine wpL_take hOps hS rfl (fun _ _ _ h => h) (yl_move rfl _ rfl) ?_
        simp only [Act.put, Act.eval, List.setIfInBounds_toArray, List.set_cons_zero, List.set_cons_succ, Array.getD_eq_getD_getElem?, List.getElem?_toArray, List.getElem?_cons_zero, List.getElem?_cons_succ, Option.getD_some]
        refine wpL_take hOps hS rfl (fun _ _ _ h => h) (yl_move rfl _ rfl) ?_
        simp only [Act.put, Act.eval, List.setIfInBounds_toArray, List.set_cons_zero, List.set_cons_succ, Array.getD_eq_getD_getElem?, List.getElem?_toArray, List.getElem?_cons_zero, List.getElem?_cons_succ, Option.getD_some]
        refine wpL_take hOps hS (v := ?vOp51) rfl (fun _ _ _ h => h) (yl rfl ?yOp51) ?_
        case yOp51 => (intro w hw; go_simp; first | done | rfl)
        simp only [Act.put, Act.eval, List.setIfInBounds_toArray, List.set_cons_zero, List.set_cons_succ, Array.getD_eq_getD_getElem?, List.getElem?_toArray, List.getElem?_cons_zero, List.getElem?_cons_succ, Option.getD_some]
        refine wpL_take hOps hS (v := ?vOp53) rfl (fun _ _ _ h => h) (yl rfl ?yOp53) ?_
        case yOp53 => (intro w hw; go_simp; first | done | rfl)
        simp only [Act.put, Act.eval, List.setIfInBounds_toArray, List.set_cons_zero, List.set_cons_succ, Array.getD_eq_getD_getElem?, List.getElem?_toArray, List.getElem?_cons_zero, List.getElem?_cons_succ, Option.getD_some]
        refine wpL_take hOps hS rfl (fun _ _ _ h => h) (yl_get rfl _ _ rfl rfl (by kernel_rfl) (fun w hw => hcell w hw q (by omega))) ?_
        simp only [Act.put, Act.eval, List.setIfInBounds_toArray, List.set_cons_zero, List.set_cons_succ, Array.getD_eq_getD_getElem?, List.getElem?_toArray, List.getElem?_cons_zero, List.getElem?_cons_succ, Option.getD_some]
        refine wpL_take hOps hS rfl (fun _ _ _ h => h) (yl_move rfl _ rfl) ?_
        simp only [Act.put, Act.eval, List.setIfInBounds_toArray, List.set_cons_zero, List.set_cons_succ, Array.getD_eq_getD_getElem?, List.getElem?_toArray, List.getElem?_cons_zero, List.getElem?_cons_succ, Option.getD_some]
        refine wpL_take hOps hS rfl (fun _ _ _ h => h) (yl_move rfl _ rfl) ?_
        simp only [Act.put, Act.eval, List.setIfInBounds_toArray, List.set_cons_zero, List.set_cons_succ, Array.getD_eq_getD_getElem?, List.getElem?_toArray, List.getElem?_cons_zero, List.getElem?_cons_succ, Option.getD_some]
        refine wpL_take hOps hS (v := ?vOp63) rfl (fun _ _ _ h => h) (yl rfl ?yOp63) ?_
        case yOp63 => (intro w hw; go_simp; first | done | rfl)
        simp only [Act.put, Act.eval, List.setIfInBounds_toArray, List.set_cons_zero, List.set_cons_succ, Array.getD_eq_getD_getElem?, List.getElem?_toArray, List.getElem?_cons_zero, List.getElem?_cons_succ, Option.getD_some]
        refine wpL_take hOps hS rfl (fun _ _ _ h => h) (yl_get rfl _ _ rfl rfl (by kernel_rfl) (fun w hw => hcell w hw (q + 1) (by omega))) ?_
        simp only [Act.put, Act.eval, List.setIfInBounds_toArray, List.set_cons_zero, List.set_cons_succ, Array.getD_eq_getD_getElem?, List.getElem?_toArray, List.getElem?_cons_zero, List.getElem?_cons_succ, Option.getD_some]
        refine wpL_take hOps hS (v := ?vOp67) rfl (fun _ _ _ h => h) (yl rfl ?yOp67) ?_
        case yOp67 => (intro w hw; go_simp; first | done | rfl)
        simp only [Act.put, Act.eval, List.setIfInBounds_toArray, List.set_cons_zero, List.set_cons_succ, Array.getD_eq_getD_getElem?, List.getElem?_toArray, List.getElem?_cons_zero, List.getElem?_cons_succ, Option.getD_some]
        by_cases hg : gz xs q < gz xs (q + 1)
        · first | rw [show decide (gz xs (q + 1) ≤ gz xs q) = false from decide_eq_false (by omega)] | skip
          refine wpL_take hOps hS (v := ?vOp69) rfl (fun _ _ _ h => h) (yl rfl ?yOp69) ?_
          case yOp69 => (intro w hw; go_simp; first | done | rfl)
          simp only [Act.put, Act.eval, List.setIfInBounds_toArray, List.set_cons_zero, List.set_cons_succ, Array.getD_eq_getD_getElem?, List.getElem?_toArray, List.getElem?_cons_zero, List.getElem?_cons_succ, Option.getD_some]
          refine wpL_end ?_
          clear hOps hS ops
          have HR1 := Lib.hid (show ∀ i, i < q + 1 + 1 → 0 < i → gz xs (i - 1) < gz xs i from fun i h h' => by
            by_cases e : i = q + 1
            · subst e; exact hg
            · exact HR.out i (by omega) h')
          have HLJ := Lib.hid hlj
          by_cases he : gz xs (q + 1) = last
          · have hm2 := Lib.hid (show true = decide (last ∈ xs.take ((q + 1) + 1)) from (decide_eq_true ((mem_snoc (by omega) last).2 (.inr he))).symm)
            have hs2 := Lib.hid (show ls = others last (xs.take ((q + 1) + 1)) by rw [others_snoc (by omega), if_pos he, List.append_nil]; exact HLS.out)
            have HE := Lib.hid he
            have hcj := hcell _ H (q + 1) (by omega)
            rw [he] at hcj
            clear he
            try simp only [Nat.add_zero] at hcj
            go_wp2
            first
              | (refine ⟨?_, ?measure⟩; iterate 60 (try apply Exists.intro); refine ⟨?rel, rfl⟩)
              | refine ⟨?rel, ?measure⟩
            case rel => exact ⟨(q + 2), true, ls, _, _, by omega, by go_num, rfl, rfl, HR1.out, hm2.out, hs2.out, by have := HLJ.out; omega, H⟩
            case measure => simp [intOf]; omega
          · have hm2 := Lib.hid (show th = decide (last ∈ xs.take ((q + 1) + 1)) by rw [HTH.out]; exact decide_eq_decide.2 ⟨fun h => (mem_snoc (by omega) last).2 (.inl h), fun h => ((mem_snoc (by omega) last).1 h).resolve_right he⟩)
            have hs2 := Lib.hid (show ls ++ [gz xs (q + 1)] = others last (xs.take ((q + 1) + 1)) by rw [others_snoc (by omega), if_neg he, ← HLS.out])
            have hcj := hcell _ H (q + 1) (by omega)
            try simp only [Nat.add_zero] at hcj
            go_wp2_with ((with_reducible refine wpList_op rfl ?_); intro _ hK; first | (refine wp_lbuild el_a (y := gz xs (q + 1)) _ under_Addrs _ rfl rfl rfl (by omega) (by omega) H (fun C w' H => hK _ _ ?_)) | (refine wp_lapp_one el_a (y := gz xs (q + 1)) _ under_Addrs _ _ rfl rfl (H.pull 1 rfl) rfl 0 rfl rfl (by simp only [maxLen]; omega) (by omega) (fun bb cc w' H => hK _ _ ?_)))
            first
              | (refine ⟨?_, ?measure⟩; iterate 60 (try apply Exists.intro); refine ⟨?rel, rfl⟩)
              | refine ⟨?rel, ?measure⟩
            case rel => exact ⟨(q + 2), th, ls ++ [gz xs (q + 1)], _, _, by omega, by go_num, rfl, by simp, HR1.out, hm2.out, hs2.out, by have := HLJ.out; rw [List.length_append]; simp only [List.length_cons, List.length_nil]; omega, H.maskR [true, false]⟩
            case measure => simp [intOf]; omega
        · first | rw [show decide (gz xs (q + 1) ≤ gz xs q) = true from decide_eq_true (by omega)] | skip
          have hz : wrongZ ws.length xs ((m : Int) + 1) last = 1 := if_pos (.inr (.inr (.inr (risesB_false (xs := xs) (i := q + 1) (by omega) (by omega) hg))))
          have HF := Lib.hid (FAIL.out _ (by omega) hz)
          have HZ := Lib.hid hz
          clear hz
          refine wpL_take hOps hS (v := ?vOp75) rfl (fun _ _ _ h => h) (yl rfl ?yOp75) ?_
          case yOp75 => (intro w hw; go_simp; first | done | rfl)
          simp only [Act.put, Act.eval, List.setIfInBounds_toArray, List.set_cons_zero, List.set_cons_succ, Array.getD_eq_getD_getElem?, List.getElem?_toArray, List.getElem?_cons_zero, List.getElem?_cons_succ, Option.getD_some]
          refine wpL_end ?_
          clear hOps hS ops
          go_wp2
          go_ret3
          rw [HZ.out, HF.out.1, HF.out.2]
          exact ⟨none, 0, rfl, lrow_nil H.tail (ic .u16) 25 1⟩
    · have hj2 : j = xs.length := by omega
      subst hj2
      have hrt := risesB_true HR.out
      have hn : ¬ (((m : Int) + 1) < 1 ∨ ((m : Int) + 1) > 5 ∨ (xs.length : Int) > 16 ∨ risesB xs = false) := by
        rintro (h | h | h | h)
        · omega
        · omega
        · omega
        · rw [hrt] at h; cases h
      have hth := HTH.out
      have hls := HLS.out
      rw [List.take_of_length_le (Nat.le_refl _)] at hth hls
      by_cases h5 : last ∈ xs
      · rw [decide_eq_true h5] at hth
        subst hth
        by_cases h6 : (xs.length : Int) < (m : Int) + 1
        · have hz : wrongZ ws.length xs ((m : Int) + 1) last = 8 := by unfold wrongZ; rw [if_neg hn, if_neg (not_not_intro h5), if_pos h6]
          have HF := Lib.hid (FAIL.out _ (by omega) hz)
          have HZ := Lib.hid hz
          clear hz h5 hrt hn hls
          go_wp2
          go_ret3
          rw [HZ.out, HF.out.1, HF.out.2]
          exact ⟨none, 0, rfl, lrow_nil H.tail (ic .u16) 25 1⟩
        by_cases h7 : (ws.length : Int) < (m : Int)
        · have hz : wrongZ ws.length xs ((m : Int) + 1) last = 2 := by unfold wrongZ; rw [if_neg hn, if_neg (not_not_intro h5), if_neg h6, if_pos (by omega)]
          have HF := Lib.hid (FAIL.out _ (by omega) hz)
          have HZ := Lib.hid hz
          clear hz h5 hrt hn hls
          go_wp2
          go_ret3
          rw [HZ.out, HF.out.1, HF.out.2]
          exact ⟨none, 0, rfl, lrow_nil H.tail (ic .u16) 25 1⟩
        · have hz : wrongZ ws.length xs ((m : Int) + 1) last = 0 := by unfold wrongZ; rw [if_neg hn, if_neg (not_not_intro h5), if_neg h6, if_neg (by omega)]
          have hR : drawR ws xs ((m : Int) + 1) last = (drawn (ws.take m) ls).1 ++ [last] := by
            unfold drawR
            rw [if_pos hz, show ((m : Int) + 1 - 1).toNat = m by omega, ← hls]
          have hN : drawN ws xs ((m : Int) + 1) last = m := by unfold drawN; rw [if_pos hz]; omega
          have hn0 := others_length (rises_nodup hrt) h5
          rw [← hls] at hn0
          have HR2 := Lib.hid hR
          have HN := Lib.hid hN
          have HZ := Lib.hid hz
          have b6 : m ≤ ls.length := by omega
          have b7 : m ≤ ws.length := by omega
          have b9 : ls.length ≤ 16 := by omega
          clear hR hN hz h5 hrt hn hls hn0 hcell
          have tok1 : True := trivial
          go_wp2_with ((with_reducible refine wpList_op rfl ?_); intro _ hK; refine wp_lnew el_a _ under_Addrs rfl H (fun B w' H => hK _ _ ?_))
          go_loopw [12, 14, 15] (fun l12 l14 i wr => ∃ (j : Nat) (out left : List Int) (a1 : Option Addr) (c1 : Nat) (a2 : Option Addr) (c2 : Nat), j ≤ m ∧ i = .int .i64 j ∧ l12 = .slice a2 left.length c2 ∧ l14 = .slice a1 out.length c1 ∧ RDrawR w0 F ws ls ls.length j out left a1 c1 a2 c2 wr) (fun _ _ i _ => m - (intOf i).toNat)
          case atStart => exact ⟨0, [], ls, _, _, _, _, by omega, rfl, rfl, rfl, rfl, rfl, by omega, H⟩
          case round =>
            clear H
            obtain ⟨j, out, left, a1, c1, a2, c2, hj, rfl, rfl, rfl, hd, ho, hle, H⟩ := hrel
            by_cases hlt : (j : Int) < m
            · have hjw : j < ws.length := by omega
              have hjw2 : (j : Int) < ws.length := by omega
              obtain rfl := hwa (by omega)
              have hcw := hwcell wr H.tail.tail j hjw
              have hxb := hwb _ (gz_mem hjw)
              obtain ⟨k, hk, hkl⟩ := place (w := gz ws j) (n := left.length) (by omega)
              obtain ⟨gb, ob, rfl⟩ := lrow_place H 1 rfl (by omega)
              have hcl : wr.cell? ⟨gb, ob + k, none⟩ = some (.int .u16 (gz left k)) := by
                have := lrow_cell el_a (j := 0) H 1 rfl (gz_get hkl) rfl
                simpa using this
              have hd2 : drawn (ws.take (j + 1)) ls = (out ++ [gz left k], left.eraseIdx k) := by
                rw [take_snoc (gz_get hjw), drawn_snoc, hd]
                unfold lstep
                rw [hk, Int.toNat_natCast]
              have hel : (left.eraseIdx k).length = left.length - 1 := by rw [List.length_eraseIdx, if_pos hkl]
              have HD2 := Lib.hid hd2
              have HEL := Lib.hid hel
              have HER := Lib.hid (List.eraseIdx_eq_take_drop_succ (l := left) (i := k))
              have hcap : left.length ≤ c2 := by
                have h := H.pull 1 rfl
                unfold lrow at h
                obtain ⟨_, _, h, _⟩ := At.rows_blk h
                exact h
              have hll2 : (left.length : Int) ≤ 1000000 := by omega
              have hl0 : ¬ (left.length : Int) = 0 := by omega
              have hkl2 : (k : Int) < left.length := by omega
              have p1 : (k : Int) + 1 ≤ left.length := by omega
              have p2 : (k : Int) ≤ (k : Int) + 1 := by omega
              have p4 : k ≤ c2 := by omega
              have p5 : (k : Int) ≤ c2 := by omega
              have p6 : IntKind.i64.wrap ((k : Int) + 1) = (k : Int) + 1 := by rw [IntKind.wrap_i64]; omega
              have HO := Lib.hid ho
              have out_len : out.length ≤ 16 := by omega
              clear hd hd2 hel ho
              go_wp2_with ((with_reducible refine wpList_op rfl ?_); intro _ hK; first | (refine wp_lbuild el_a (y := gz left k) _ under_Addrs _ rfl rfl rfl (by omega) (by omega) H (fun C w' H => hK _ _ ?_)) | (refine wp_lapp_one el_a (y := gz left k) _ under_Addrs _ _ rfl rfl (H.pull 1 rfl) rfl 0 rfl rfl (by simp only [maxLen]; omega) (by omega) (fun bb cc w' H => hK _ _ ?_)))
              by_cases hce : c2 = k + 1
              · have hd : left.drop (k + 1) = [] := List.drop_of_length_le (by omega)
                have HDR := Lib.hid hd
                have hlen0 : left.length - (k + 1) = 0 := by omega
                subst hce
                clear hd
                refine wpL_begin 10 (At w0 (lrow 25 1 (ic .u16) (.slice bb (out ++ [gz left k]).length cc) (out ++ [gz left k]) :: raw C (ic .u16 (gz left k)).toArray 25 :: lrow 25 1 (ic .u16) (.slice (some ⟨gb, ob, none⟩) left.length (k + 1)) left :: F)) [(1, true), (2, true), (3, true), (5, true), (6, true), (7, true), (8, true), (0, false), (4, false), (9, false), (10, false)] rfl (by kernel_rfl) (by kernel_rfl) ((H.drew)) ?_
                intro ops hOps hS
                replace H := H.drew
                refine wpL_take hOps hS rfl (fun _ _ _ h => h) (yl_move rfl _ rfl) ?_
                simp only [Act.put, Act.eval, List.setIfInBounds_toArray, List.set_cons_zero, List.set_cons_succ, Array.getD_eq_getD_getElem?, List.getElem?_toArray, List.getElem?_cons_zero, List.getElem?_cons_succ, Option.getD_some]
                refine wpL_take hOps hS rfl (fun _ _ _ h => h) (yl_move rfl _ rfl) ?_
                simp only [Act.put, Act.eval, List.setIfInBounds_toArray, List.set_cons_zero, List.set_cons_succ, Array.getD_eq_getD_getElem?, List.getElem?_toArray, List.getElem?_cons_zero, List.getElem?_cons_succ, Option.getD_some]
                refine wpL_take hOps hS (v := ?vOp86) rfl (fun _ _ _ h => h) (yl rfl ?yOp86) ?_
                case yOp86 => (intro w hw; go_simp; first | done | rfl)
                simp only [Act.put, Act.eval, List.setIfInBounds_toArray, List.set_cons_zero, List.set_cons_succ, Array.getD_eq_getD_getElem?, List.getElem?_toArray, List.getElem?_cons_zero, List.getElem?_cons_succ, Option.getD_some]
                refine wpL_take hOps hS rfl (fun _ _ _ h => h) (yl_move rfl _ rfl) ?_
                simp only [Act.put, Act.eval, List.setIfInBounds_toArray, List.set_cons_zero, List.set_cons_succ, Array.getD_eq_getD_getElem?, List.getElem?_toArray, List.getElem?_cons_zero, List.getElem?_cons_succ, Option.getD_some]
                refine wpL_take hOps hS rfl (fun _ _ _ h => h) (yl_move rfl _ rfl) ?_
                simp only [Act.put, Act.eval, List.setIfInBounds_toArray, List.set_cons_zero, List.set_cons_succ, Array.getD_eq_getD_getElem?, List.getElem?_toArray, List.getElem?_cons_zero, List.getElem?_cons_succ, Option.getD_some]
                refine wpL_take hOps hS (v := ?vOp94) rfl (fun _ _ _ h => h) (yl rfl ?yOp94) ?_
                case yOp94 => (intro w hw; go_simp; first | done | rfl)
                simp only [Act.put, Act.eval, List.setIfInBounds_toArray, List.set_cons_zero, List.set_cons_succ, Array.getD_eq_getD_getElem?, List.getElem?_toArray, List.getElem?_cons_zero, List.getElem?_cons_succ, Option.getD_some]
                refine wpL_take hOps hS (v := ?vOp96) rfl (fun _ _ _ h => h) (yl rfl ?yOp96) ?_
                case yOp96 => (intro w hw; go_simp; first | done | rfl)
                simp only [Act.put, Act.eval, List.setIfInBounds_toArray, List.set_cons_zero, List.set_cons_succ, Array.getD_eq_getD_getElem?, List.getElem?_toArray, List.getElem?_cons_zero, List.getElem?_cons_succ, Option.getD_some]
                refine wpL_next hOps rfl rfl ?_
                intro K hK
                refine wp_lnew el_a _ under_Addrs rfl H (fun B' w' H => ?_)
                have hS := (H.tail)
                refine hK _ _ hS ?_
                clear hK K
                simp only [Act.put, Act.eval, List.setIfInBounds_toArray, List.set_cons_zero, List.set_cons_succ, Array.getD_eq_getD_getElem?, List.getElem?_toArray, List.getElem?_cons_zero, List.getElem?_cons_succ, Option.getD_some]
                refine wpL_next hOps rfl rfl ?_
                intro K hK
                refine wp_lapp el_a (xs := []) (ys := left.take k) _ _ under_Addrs (.inl ⟨_, under_Addrs⟩) _ _ rfl rfl H rfl (lrow_src_take el_a H 3 rfl k _ (by omega)) (by simp [maxLen]; omega) (by simp; omega) (fun b1 c1 w' H => ?_)
                have hS := (H.tail)
                refine hK _ _ hS ?_
                clear hK K
                simp only [Act.put, Act.eval, List.setIfInBounds_toArray, List.set_cons_zero, List.set_cons_succ, Array.getD_eq_getD_getElem?, List.getElem?_toArray, List.getElem?_cons_zero, List.getElem?_cons_succ, Option.getD_some]
                refine wpL_next hOps rfl rfl ?_
                intro K hK
                have hsrc := lrow_src_drop el_a H 3 rfl (k + 1) ((k + 1) - (k + 1)) (by omega)
                rw [Nat.mul_one] at hsrc
                refine wp_lapp el_a (xs := [] ++ left.take k) (ys := ([] : List Int)) _ _ under_Addrs (.inl ⟨_, under_Addrs⟩) _ _ rfl rfl H rfl (by first | exact lrow_src_zero _ _ | (rw [hlen0]; exact lrow_src_zero _ _)) (by simp [maxLen]; omega) (by simp; omega) (fun b2 c2 w' H => ?_)
                have hS := (H.tail)
                refine hK _ _ hS ?_
                clear hK K
                simp only [Act.put, Act.eval, List.setIfInBounds_toArray, List.set_cons_zero, List.set_cons_succ, Array.getD_eq_getD_getElem?, List.getElem?_toArray, List.getElem?_cons_zero, List.getElem?_cons_succ, Option.getD_some]
                refine wpL_last hOps rfl rfl ?_
                intro K hK
                refine wp_run rfl ?_
                refine hK _ _ ?_
                clear hK K hOps hS ops
                simp only [Act.put, Act.eval, List.setIfInBounds_toArray, List.set_cons_zero, List.set_cons_succ, Array.getD_eq_getD_getElem?, List.getElem?_toArray, List.getElem?_cons_zero, List.getElem?_cons_succ, Option.getD_some]
                have hle2 : ([] ++ left.take k ++ ([] : List Int)) = left.eraseIdx k := by rw [HER.out]; first | rfl | (rw [HDR.out]; rfl)
                rw [hle2] at H ⊢
                go_wp2
                first
                  | (refine ⟨?_, ?measure⟩; iterate 60 (try apply Exists.intro); refine ⟨?rel, rfl⟩)
                  | refine ⟨?rel, ?measure⟩
                case rel => exact ⟨j + 1, out ++ [gz left k], left.eraseIdx k, _, _, _, _, by omega, by go_num, rfl, by simp, HD2.out, by have := HO.out; simp; omega, by have := HEL.out; omega, (H.pull 1 rfl).maskR [true, true, false, false]⟩
                case measure => simp [intOf]; omega
              · have HDR := Lib.hid trivial
                refine wpL_begin 10 (At w0 (lrow 25 1 (ic .u16) (.slice bb (out ++ [gz left k]).length cc) (out ++ [gz left k]) :: raw C (ic .u16 (gz left k)).toArray 25 :: lrow 25 1 (ic .u16) (.slice (some ⟨gb, ob, none⟩) left.length c2) left :: F)) [(1, true), (2, true), (3, true), (5, true), (6, true), (7, true), (8, true), (0, false), (4, false), (9, false), (10, false)] rfl (by kernel_rfl) (by kernel_rfl) ((H.drew)) ?_
                intro ops hOps hS
                replace H := H.drew
                refine wpL_take hOps hS rfl (fun _ _ _ h => h) (yl_move rfl _ rfl) ?_
                simp only [Act.put, Act.eval, List.setIfInBounds_toArray, List.set_cons_zero, List.set_cons_succ, Array.getD_eq_getD_getElem?, List.getElem?_toArray, List.getElem?_cons_zero, List.getElem?_cons_succ, Option.getD_some]
                refine wpL_take hOps hS rfl (fun _ _ _ h => h) (yl_move rfl _ rfl) ?_
                simp only [Act.put, Act.eval, List.setIfInBounds_toArray, List.set_cons_zero, List.set_cons_succ, Array.getD_eq_getD_getElem?, List.getElem?_toArray, List.getElem?_cons_zero, List.getElem?_cons_succ, Option.getD_some]
                refine wpL_take hOps hS (v := ?vOp119) rfl (fun _ _ _ h => h) (yl rfl ?yOp119) ?_
                case yOp119 => (intro w hw; go_simp; first | done | rfl)
                simp only [Act.put, Act.eval, List.setIfInBounds_toArray, List.set_cons_zero, List.set_cons_succ, Array.getD_eq_getD_getElem?, List.getElem?_toArray, List.getElem?_cons_zero, List.getElem?_cons_succ, Option.getD_some]
                refine wpL_take hOps hS rfl (fun _ _ _ h => h) (yl_move rfl _ rfl) ?_
                simp only [Act.put, Act.eval, List.setIfInBounds_toArray, List.set_cons_zero, List.set_cons_succ, Array.getD_eq_getD_getElem?, List.getElem?_toArray, List.getElem?_cons_zero, List.getElem?_cons_succ, Option.getD_some]
                refine wpL_take hOps hS rfl (fun _ _ _ h => h) (yl_move rfl _ rfl) ?_
                simp only [Act.put, Act.eval, List.setIfInBounds_toArray, List.set_cons_zero, List.set_cons_succ, Array.getD_eq_getD_getElem?, List.getElem?_toArray, List.getElem?_cons_zero, List.getElem?_cons_succ, Option.getD_some]
                refine wpL_take hOps hS (v := ?vOp127) rfl (fun _ _ _ h => h) (yl rfl ?yOp127) ?_
                case yOp127 => (intro w hw; go_simp; first | done | rfl)
                simp only [Act.put, Act.eval, List.setIfInBounds_toArray, List.set_cons_zero, List.set_cons_succ, Array.getD_eq_getD_getElem?, List.getElem?_toArray, List.getElem?_cons_zero, List.getElem?_cons_succ, Option.getD_some]
                refine wpL_take hOps hS (v := ?vOp129) rfl (fun _ _ _ h => h) (yl rfl ?yOp129) ?_
                case yOp129 => (intro w hw; go_simp; first | done | rfl)
                simp only [Act.put, Act.eval, List.setIfInBounds_toArray, List.set_cons_zero, List.set_cons_succ, Array.getD_eq_getD_getElem?, List.getElem?_toArray, List.getElem?_cons_zero, List.getElem?_cons_succ, Option.getD_some]
                refine wpL_next hOps rfl rfl ?_
                intro K hK
                refine wp_lnew el_a _ under_Addrs rfl H (fun B' w' H => ?_)
                have hS := (H.tail)
                refine hK _ _ hS ?_
                clear hK K
                simp only [Act.put, Act.eval, List.setIfInBounds_toArray, List.set_cons_zero, List.set_cons_succ, Array.getD_eq_getD_getElem?, List.getElem?_toArray, List.getElem?_cons_zero, List.getElem?_cons_succ, Option.getD_some]
                refine wpL_next hOps rfl rfl ?_
                intro K hK
                refine wp_lapp el_a (xs := []) (ys := left.take k) _ _ under_Addrs (.inl ⟨_, under_Addrs⟩) _ _ rfl rfl H rfl (lrow_src_take el_a H 3 rfl k _ (by omega)) (by simp [maxLen]; omega) (by simp; omega) (fun b1 c1 w' H => ?_)
                have hS := (H.tail)
                refine hK _ _ hS ?_
                clear hK K
                simp only [Act.put, Act.eval, List.setIfInBounds_toArray, List.set_cons_zero, List.set_cons_succ, Array.getD_eq_getD_getElem?, List.getElem?_toArray, List.getElem?_cons_zero, List.getElem?_cons_succ, Option.getD_some]
                refine wpL_next hOps rfl rfl ?_
                intro K hK
                have hsrc := lrow_src_drop el_a H 3 rfl (k + 1) (c2 - (k + 1)) (by omega)
                rw [Nat.mul_one] at hsrc
                refine wp_lapp el_a (xs := [] ++ left.take k) (ys := (left.drop (k + 1))) _ _ under_Addrs (.inl ⟨_, under_Addrs⟩) _ _ rfl rfl H rfl (hsrc) (by simp [maxLen]; omega) (by simp; omega) (fun b2 c2 w' H => ?_)
                have hS := (H.tail)
                refine hK _ _ hS ?_
                clear hK K
                simp only [Act.put, Act.eval, List.setIfInBounds_toArray, List.set_cons_zero, List.set_cons_succ, Array.getD_eq_getD_getElem?, List.getElem?_toArray, List.getElem?_cons_zero, List.getElem?_cons_succ, Option.getD_some]
                refine wpL_last hOps rfl rfl ?_
                intro K hK
                refine wp_run rfl ?_
                refine hK _ _ ?_
                clear hK K hOps hS ops
                simp only [Act.put, Act.eval, List.setIfInBounds_toArray, List.set_cons_zero, List.set_cons_succ, Array.getD_eq_getD_getElem?, List.getElem?_toArray, List.getElem?_cons_zero, List.getElem?_cons_succ, Option.getD_some]
                have hle2 : ([] ++ left.take k ++ (left.drop (k + 1))) = left.eraseIdx k := by rw [HER.out]; first | rfl | (rw [HDR.out]; rfl)
                rw [hle2] at H ⊢
                go_wp2
                first
                  | (refine ⟨?_, ?measure⟩; iterate 60 (try apply Exists.intro); refine ⟨?rel, rfl⟩)
                  | refine ⟨?rel, ?measure⟩
                case rel => exact ⟨j + 1, out ++ [gz left k], left.eraseIdx k, _, _, _, _, by omega, by go_num, rfl, by simp, HD2.out, by have := HO.out; simp; omega, by have := HEL.out; omega, (H.pull 1 rfl).maskR [true, true, false, false]⟩
                case measure => simp [intOf]; omega
            · have hj2 : j = m := by omega
              subst hj2
              have HD := Lib.hid hd
              have HO := Lib.hid ho
              have out_len : out.length ≤ 16 := by omega
              clear hd ho hwcell
              go_wp2_with ((with_reducible refine wpList_op rfl ?_); intro _ hK; first | (refine wp_lbuild el_a (y := last) _ under_Addrs _ rfl rfl rfl (by omega) (by omega) H (fun C w' H => hK _ _ ?_)) | (refine wp_lapp_one el_a (y := last) _ under_Addrs _ _ rfl rfl (H.pull 1 rfl) rfl 0 rfl rfl (by simp only [maxLen]; omega) (by omega) (fun bb cc w' H => hK _ _ ?_)))
              go_ret3
              rw [HR2.out, HN.out, HZ.out, HD.out]
              have H9 := H.maskR [true, false, false]
              refine ⟨bb, cc, by simp, ?_⟩
              exact H9
      · rw [decide_eq_false h5] at hth
        subst hth
        have hz : wrongZ ws.length xs ((m : Int) + 1) last = 10 := by unfold wrongZ; rw [if_neg hn, if_pos h5]
        have HF := Lib.hid (FAIL.out _ (by omega) hz)
        have HZ := Lib.hid hz
        clear hz h5 hrt hn hls
        go_wp2
        go_ret3
        rw [HZ.out, HF.out.1, HF.out.2]
        exact ⟨none, 0, rfl, lrow_nil H.tail (ic .u16) 25 1⟩
end Go.Proofs.Ytddddlphnoicpaa
