/-
  A skew by what was told to it: Add, Len, Bound, Middle.
-/
import Derived.Test.YthhmgodnmgmjdaaSkewB
namespace Go.Proofs.Ythhmgodnmgmjdaa
open Go.RowKit Go.Hg Go.Shelf
set_option linter.unusedSimpArgs false
set_option linter.unusedVariables false
theorem row_at {w0 w : World} {F : List SP} {a : Option Addr} {c m : Nat} {zs : List Int} (H : At w0 F w) (k : Nat) (hk : F[k]? = some (row64 (.slice a m c) zs)) (hm : zs.length = m) (h0 : 0 < m) :
    ∃ g off, a = some ⟨g, off, none⟩ ∧ ∀ w', At w0 F w' → ∀ i, i < m → w'.cell? ⟨g, off + i, none⟩ = some (.int .i64 (gz zs i)) := by
  subst hm
  obtain ⟨g, off, rfl⟩ := lrow_place H k hk h0
  refine ⟨g, off, rfl, fun w' H' i hi => ?_⟩
  have h := lrow_cell el_64 (j := 0) H' k hk (gz_get hi) rfl
  simpa using h
set_option maxRecDepth 10000 in
set_option maxHeartbeats 1000000 in
theorem bound_raw {w0 w : World} {F : List SP} {p : Nat} {L : List Int} {n : Nat} (H : At w0 (skew p L n :: F) w) (hL : L.length = 16) :
    Calls Try.prog 16 #[.pointer (some ⟨p, 0, none⟩)] w fun e w' => e = .returned (.tuple #[.int .i64 (gz (srt (L.take (min n 16))) 0), .int .i64 (gz (srt (L.take (min n 16))) (min n 16 - 1)), .bool (decide (0 < n))]) ∧ At w0 (skew p L n :: F) w' := by
  have hall := all_c H hL
  obtain ⟨m, hm⟩ : ∃ m : Nat, m = min n 16 := ⟨_, rfl⟩
  obtain ⟨S, hS⟩ : ∃ S, S = srt (L.take m) := ⟨_, rfl⟩
  have hSl : S.length = m := by rw [hS, srt_length]; simp; omega
  rw [← hm, ← hS] at hall
  rw [← hm, ← hS]
  have hb : decide (0 < n) = decide (0 < m) := by by_cases h : 0 < m <;> simp [h] <;> omega
  rw [hb]
  have hm16 : m ≤ 16 := by omega
  have HS := Lib.hid hSl
  clear hb hm hS hSl hL H
  by_cases h0 : 0 < m
  · rw [decide_eq_true h0]
    obtain ⟨k, hk⟩ : ∃ k, k = m - 1 := ⟨_, rfl⟩
    have hk2 : (m : Int) - 1 = (k : Int) := by omega
    have hk3 : (k : Int) < m := by omega
    have hkw : IntKind.i64.wrap (k : Int) = k := by rw [IntKind.wrap_i64]; omega
    have hkm : k < m := by omega
    rw [← hk]
    clear hk
    go_enter Try.func16, Try.ntmps16
    go_wp2_with fail
    refine hall.mono ?_
    rintro e w' ⟨a, c, rfl, H⟩
    obtain ⟨g, off, rfl, hcell⟩ := row_at H 0 rfl HS.out h0
    go_wp2_with fail
    refine wpL_begin 11 (At w0 (row64 (.slice (some ⟨g, off, none⟩) m c) S :: skew p L n :: F)) [(0, true), (1, true), (2, true), (3, true), (4, true), (5, true), (6, true), (7, true), (8, true), (9, false), (10, false), (11, false)] rfl (by kernel_rfl) (by kernel_rfl) ((H.drew)) ?_
    intro ops hOps hS
    replace H := H.drew
    have h00 := fun w hw => hcell w hw 0 h0
    simp only [Nat.add_zero] at h00
    refine wpL_take hOps hS rfl (fun _ _ _ h => h) (yl_move rfl _ rfl) ?_
    simp only [Act.put, Act.eval, List.setIfInBounds_toArray, List.set_cons_zero, List.set_cons_succ, Array.getD_eq_getD_getElem?, List.getElem?_toArray, List.getElem?_cons_zero, List.getElem?_cons_succ, Option.getD_some]
    refine wpL_take hOps hS (v := ?vOp5) rfl (fun _ _ _ h => h) (yl rfl ?yOp5) ?_
    case yOp5 => (intro w hw; go_simp; first | done | rfl)
    simp only [Act.put, Act.eval, List.setIfInBounds_toArray, List.set_cons_zero, List.set_cons_succ, Array.getD_eq_getD_getElem?, List.getElem?_toArray, List.getElem?_cons_zero, List.getElem?_cons_succ, Option.getD_some]
    refine wpL_take hOps hS rfl (fun _ _ _ h => h) (yl_get rfl _ _ rfl rfl (by kernel_rfl) h00) ?_
    simp only [Act.put, Act.eval, List.setIfInBounds_toArray, List.set_cons_zero, List.set_cons_succ, Array.getD_eq_getD_getElem?, List.getElem?_toArray, List.getElem?_cons_zero, List.getElem?_cons_succ, Option.getD_some]
    refine wpL_take hOps hS rfl (fun _ _ _ h => h) (yl_move rfl _ rfl) ?_
    simp only [Act.put, Act.eval, List.setIfInBounds_toArray, List.set_cons_zero, List.set_cons_succ, Array.getD_eq_getD_getElem?, List.getElem?_toArray, List.getElem?_cons_zero, List.getElem?_cons_succ, Option.getD_some]
    refine wpL_take hOps hS rfl (fun _ _ _ h => h) (yl_move rfl _ rfl) ?_
    simp only [Act.put, Act.eval, List.setIfInBounds_toArray, List.set_cons_zero, List.set_cons_succ, Array.getD_eq_getD_getElem?, List.getElem?_toArray, List.getElem?_cons_zero, List.getElem?_cons_succ, Option.getD_some]
    refine wpL_take hOps hS (v := ?vOp15) rfl (fun _ _ _ h => h) (yl rfl ?yOp15) ?_
    case yOp15 => (intro w hw; go_simp; first | done | rfl)
    simp only [Act.put, Act.eval, List.setIfInBounds_toArray, List.set_cons_zero, List.set_cons_succ, Array.getD_eq_getD_getElem?, List.getElem?_toArray, List.getElem?_cons_zero, List.getElem?_cons_succ, Option.getD_some]
    refine wpL_take hOps hS (v := ?vOp17) rfl (fun _ _ _ h => h) (yl rfl ?yOp17) ?_
    case yOp17 => (intro w hw; go_simp; first | done | rfl)
    simp only [Act.put, Act.eval, List.setIfInBounds_toArray, List.set_cons_zero, List.set_cons_succ, Array.getD_eq_getD_getElem?, List.getElem?_toArray, List.getElem?_cons_zero, List.getElem?_cons_succ, Option.getD_some]
    refine wpL_take hOps hS (v := ?vOp19) rfl (fun _ _ _ h => h) (yl rfl ?yOp19) ?_
    case yOp19 => (intro w hw; go_simp; first | done | rfl)
    simp only [Act.put, Act.eval, List.setIfInBounds_toArray, List.set_cons_zero, List.set_cons_succ, Array.getD_eq_getD_getElem?, List.getElem?_toArray, List.getElem?_cons_zero, List.getElem?_cons_succ, Option.getD_some]
    refine wpL_take hOps hS rfl (fun _ _ _ h => h) (yl_get rfl _ _ rfl rfl (by kernel_rfl) (fun w hw => hcell w hw k hkm)) ?_
    simp only [Act.put, Act.eval, List.setIfInBounds_toArray, List.set_cons_zero, List.set_cons_succ, Array.getD_eq_getD_getElem?, List.getElem?_toArray, List.getElem?_cons_zero, List.getElem?_cons_succ, Option.getD_some]
    refine wpL_next hOps rfl rfl ?_
    intro K hK
    refine wp_run rfl ?_
    have hS := (H)
    refine hK _ _ hS ?_
    clear hK K
    simp only [Act.put, Act.eval, List.setIfInBounds_toArray, List.set_cons_zero, List.set_cons_succ, Array.getD_eq_getD_getElem?, List.getElem?_toArray, List.getElem?_cons_zero, List.getElem?_cons_succ, Option.getD_some]
    refine wpL_next hOps rfl rfl ?_
    intro K hK
    refine wp_run rfl ?_
    have hS := (H)
    refine hK _ _ hS ?_
    clear hK K
    simp only [Act.put, Act.eval, List.setIfInBounds_toArray, List.set_cons_zero, List.set_cons_succ, Array.getD_eq_getD_getElem?, List.getElem?_toArray, List.getElem?_cons_zero, List.getElem?_cons_succ, Option.getD_some]
    refine wpL_last hOps rfl rfl ?_
    intro K hK
    refine wp_run rfl ?_
    refine hK _ _ ?_
    clear hK K hOps hS ops
    simp only [Act.put, Act.eval, List.setIfInBounds_toArray, List.set_cons_zero, List.set_cons_succ, Array.getD_eq_getD_getElem?, List.getElem?_toArray, List.getElem?_cons_zero, List.getElem?_cons_succ, Option.getD_some]
    go_wp2
    go_ret3
    exact ⟨rfl, H.tail⟩
  · obtain rfl : m = 0 := by omega
    obtain rfl : S = [] := List.eq_nil_of_length_eq_zero HS.out
    rw [decide_eq_false h0]
    go_enter Try.func16, Try.ntmps16
    go_wp2_with fail
    refine hall.mono ?_
    rintro e w' ⟨a, c, rfl, H⟩
    go_wp2
    go_ret3
    exact ⟨rfl, H.tail⟩
set_option maxRecDepth 10000 in
set_option maxHeartbeats 1000000 in
theorem middle_raw {w0 w : World} {F : List SP} {p : Nat} {L : List Int} {n : Nat} (H : At w0 (skew p L n :: F) w) (hL : L.length = 16) :
    Calls Try.prog 17 #[.pointer (some ⟨p, 0, none⟩)] w fun e w' => e = .returned (.tuple #[.int .i64 (gz (srt (L.take (min n 16))) ((min n 16 - 1) / 2)), .bool (decide (0 < n))]) ∧ At w0 (skew p L n :: F) w' := by
  have hall := all_c H hL
  obtain ⟨m, hm⟩ : ∃ m : Nat, m = min n 16 := ⟨_, rfl⟩
  obtain ⟨S, hS⟩ : ∃ S, S = srt (L.take m) := ⟨_, rfl⟩
  have hSl : S.length = m := by rw [hS, srt_length]; simp; omega
  rw [← hm, ← hS] at hall
  rw [← hm, ← hS]
  have hb : decide (0 < n) = decide (0 < m) := by by_cases h : 0 < m <;> simp [h] <;> omega
  rw [hb]
  have hm16 : m ≤ 16 := by omega
  have HS := Lib.hid hSl
  clear hb hm hS hSl hL H
  by_cases h0 : 0 < m
  · rw [decide_eq_true h0]
    obtain ⟨q, hq⟩ : ∃ q, q = (m - 1) / 2 := ⟨_, rfl⟩
    have hq2 : (((m : Int) - 1).tdiv 2) = (q : Int) := by rw [Int.tdiv_eq_ediv_of_nonneg (by omega)]; omega
    have hqm : q < m := by omega
    rw [← hq]
    clear hq
    go_enter Try.func17, Try.ntmps17
    go_wp2_with fail
    refine hall.mono ?_
    rintro e w' ⟨a, c, rfl, H⟩
    obtain ⟨g, off, rfl, hcell⟩ := row_at H 0 rfl HS.out h0
    have hc := hcell _ H q hqm
    go_wp2
    go_ret2
    exact ⟨rfl, H.tail⟩
  · obtain rfl : m = 0 := by omega
    obtain rfl : S = [] := List.eq_nil_of_length_eq_zero HS.out
    rw [decide_eq_false h0]
    go_enter Try.func17, Try.ntmps17
    go_wp2_with fail
    refine hall.mono ?_
    rintro e w' ⟨a, c, rfl, H⟩
    go_wp2
    go_ret2
    exact ⟨rfl, H.tail⟩
/-- A skew by all that was told to it. -/
def skw (p : Nat) (D : List Int) : SP := Hg.ex fun x : { L : List Int // Ring L D } => skew p x.1 (D.length : Nat)
theorem bound_c {w0 w : World} {F : List SP} {p : Nat} {D : List Int} (H : At w0 (skw p D :: F) w) :
    Calls Try.prog 16 #[.pointer (some ⟨p, 0, none⟩)] w fun e w' => e = .returned (.tuple #[.int .i64 (gz (srt (last D)) 0), .int .i64 (gz (srt (last D)) ((last D).length - 1)), .bool (decide (0 < D.length))]) ∧ At w0 (skw p D :: F) w' := by
  obtain ⟨⟨L, hL⟩, H⟩ := At.ex H
  have h := bound_raw H hL.len
  rw [hL.srt_eq] at h
  rw [last_length]
  refine h.mono ?_
  rintro e w' ⟨rfl, H⟩
  exact ⟨rfl, At.mk_ex ⟨L, hL⟩ H⟩
theorem middle_c {w0 w : World} {F : List SP} {p : Nat} {D : List Int} (H : At w0 (skw p D :: F) w) :
    Calls Try.prog 17 #[.pointer (some ⟨p, 0, none⟩)] w fun e w' => e = .returned (.tuple #[.int .i64 (gz (srt (last D)) (((last D).length - 1) / 2)), .bool (decide (0 < D.length))]) ∧ At w0 (skw p D :: F) w' := by
  obtain ⟨⟨L, hL⟩, H⟩ := At.ex H
  have h := middle_raw H hL.len
  rw [hL.srt_eq] at h
  rw [last_length]
  refine h.mono ?_
  rintro e w' ⟨rfl, H⟩
  exact ⟨rfl, At.mk_ex ⟨L, hL⟩ H⟩
theorem length_c {w0 w : World} {F : List SP} {p : Nat} {D : List Int} (H : At w0 (skw p D :: F) w) :
    Calls Try.prog 15 #[.pointer (some ⟨p, 0, none⟩)] w fun e w' => e = .returned (.int .i64 (last D).length) ∧ At w0 (skw p D :: F) w' := by
  obtain ⟨⟨L, hL⟩, H⟩ := At.ex H
  have h := len_c H hL.len
  rw [last_length]
  refine h.mono ?_
  rintro e w' ⟨rfl, rfl⟩
  exact ⟨rfl, At.mk_ex ⟨L, hL⟩ H⟩
set_option maxRecDepth 10000 in
set_option maxHeartbeats 1000000 in
theorem add_raw {w0 w : World} {F : List SP} {p : Nat} {L : List Int} {n : Nat} (H : At w0 (skew p L n :: F) w) (hL : L.length = 16) (hn : n ≤ 1000000) {l r : Int} (hl0 : 0 ≤ l) (hl1 : l ≤ 18446744073709551615) (hr0 : 0 ≤ r) (hr1 : r ≤ 18446744073709551615) :
    Calls Try.prog 13 #[.pointer (some ⟨p, 0, none⟩), .int .u64 l, .int .u64 r] w fun e w' => e = .returned (.bool (apB l r)) ∧ At w0 ((if apB l r = true then skew p (L.set (n % 16) (apZ l r)) (n + 1 : Nat) else skew p L n) :: F) w' := by
  have hap := fun w => apart_c hl0 hl1 hr0 hr1 w
  obtain ⟨d, hd⟩ : ∃ d, d = apZ l r := ⟨_, rfl⟩
  obtain ⟨q, hq⟩ : ∃ q, q = n % 16 := ⟨_, rfl⟩
  have hq16 : q < 16 := by omega
  have hq3 : (q : Int) < 16 := by omega
  have hq2 : ((n : Int).tmod 16) = (q : Int) := by rw [Int.tmod_eq_emod_of_nonneg (by omega)]; omega
  rw [← hd, ← hq]
  rw [← hd] at hap
  cases hb : apB l r
  · rw [hb] at hap
    rw [if_neg (by simp)]
    go_enter Try.func13, Try.ntmps13
    go_wp2_with fail
    refine (hap _).mono ?_
    rintro e w' ⟨rfl, rfl⟩
    go_wp2
    go_ret
    exact ⟨rfl, H⟩
  · rw [hb] at hap
    rw [if_pos rfl]
    have HL := Lib.hid hL
    clear hL hb hq hd
    go_enter Try.func13, Try.ntmps13
    go_wp2_with fail
    refine (hap _).mono ?_
    rintro e w' ⟨rfl, rfl⟩
    clear hap
    go_wp2_with fail
    refine wpM_begin [10] ((At w0 (skew p L n :: F))) [(0, 2), (1, 2), (2, 2), (3, 2), (4, 1), (5, 2), (6, 2), (7, 2), (8, 2), (9, 2), (10, 0)] rfl (by kernel_rfl) (by kernel_rfl) ((H.drew)) ?_
    intro ops hOps hS
    replace H := H.drew
    refine wpM_free hOps rfl (fun _ _ _ h => h) (yl_move rfl _ rfl) ?_
    simp only [Act.put, Act.eval, List.setIfInBounds_toArray, List.set_cons_zero, List.set_cons_succ, Array.getD_eq_getD_getElem?, List.getElem?_toArray, List.getElem?_cons_zero, List.getElem?_cons_succ, Option.getD_some]
    refine wpM_free hOps rfl (fun _ _ _ h => h) (yl_move rfl _ rfl) ?_
    simp only [Act.put, Act.eval, List.setIfInBounds_toArray, List.set_cons_zero, List.set_cons_succ, Array.getD_eq_getD_getElem?, List.getElem?_toArray, List.getElem?_cons_zero, List.getElem?_cons_succ, Option.getD_some]
    refine wpM_free hOps rfl (fun _ _ _ h => h) (yl_nil rfl _ rfl _ rfl) ?_
    simp only [Act.put, Act.eval, List.setIfInBounds_toArray, List.set_cons_zero, List.set_cons_succ, Array.getD_eq_getD_getElem?, List.getElem?_toArray, List.getElem?_cons_zero, List.getElem?_cons_succ, Option.getD_some]
    refine wpM_free hOps (v := ?vOp42) rfl (fun _ _ _ h => h) (yl rfl ?yOp42) ?_
    case yOp42 => (intro w hw; go_simp; first | done | rfl)
    simp only [Act.put, Act.eval, List.setIfInBounds_toArray, List.set_cons_zero, List.set_cons_succ, Array.getD_eq_getD_getElem?, List.getElem?_toArray, List.getElem?_cons_zero, List.getElem?_cons_succ, Option.getD_some]
    refine wpM_take hOps hS rfl (fun _ _ _ h => h) (yl_get rfl _ _ rfl rfl (by kernel_rfl) (fun w hw => skew_n hw 0 rfl HL.out)) ?_
    simp only [Act.put, Act.eval, List.setIfInBounds_toArray, List.set_cons_zero, List.set_cons_succ, Array.getD_eq_getD_getElem?, List.getElem?_toArray, List.getElem?_cons_zero, List.getElem?_cons_succ, Option.getD_some]
    refine wpM_free hOps (v := ?vOp46) rfl (fun _ _ _ h => h) (yl rfl ?yOp46) ?_
    case yOp46 => (intro w hw; go_simp; first | done | rfl)
    simp only [Act.put, Act.eval, List.setIfInBounds_toArray, List.set_cons_zero, List.set_cons_succ, Array.getD_eq_getD_getElem?, List.getElem?_toArray, List.getElem?_cons_zero, List.getElem?_cons_succ, Option.getD_some]
    refine wpM_free hOps rfl (fun _ _ _ h => h) (yl_move rfl _ rfl) ?_
    simp only [Act.put, Act.eval, List.setIfInBounds_toArray, List.set_cons_zero, List.set_cons_succ, Array.getD_eq_getD_getElem?, List.getElem?_toArray, List.getElem?_cons_zero, List.getElem?_cons_succ, Option.getD_some]
    refine wpM_free hOps rfl (fun _ _ _ h => h) (yl_nil rfl _ rfl _ rfl) ?_
    simp only [Act.put, Act.eval, List.setIfInBounds_toArray, List.set_cons_zero, List.set_cons_succ, Array.getD_eq_getD_getElem?, List.getElem?_toArray, List.getElem?_cons_zero, List.getElem?_cons_succ, Option.getD_some]
    refine wpM_free hOps (v := ?vOp54) rfl (fun _ _ _ h => h) (yl rfl ?yOp54) ?_
    case yOp54 => (intro w hw; go_simp; first | done | rfl)
    simp only [Act.put, Act.eval, List.setIfInBounds_toArray, List.set_cons_zero, List.set_cons_succ, Array.getD_eq_getD_getElem?, List.getElem?_toArray, List.getElem?_cons_zero, List.getElem?_cons_succ, Option.getD_some]
    refine wpM_free hOps (v := ?vOp56) rfl (fun _ _ _ h => h) (yl rfl ?yOp56) ?_
    case yOp56 => (intro w hw; go_simp; first | done | rfl)
    simp only [Act.put, Act.eval, List.setIfInBounds_toArray, List.set_cons_zero, List.set_cons_succ, Array.getD_eq_getD_getElem?, List.getElem?_toArray, List.getElem?_cons_zero, List.getElem?_cons_succ, Option.getD_some]
    refine wpM_next hOps rfl rfl ?_
    intro K hK
    refine wp_store_sl 2 _ _ rfl rfl (v := .int .i64 d) rfl (by kernel_rfl) rfl 0 H rfl (by rw [skC_size, HL.out]; omega) ?_
    intro w2 H2
    rw [skC_set _ _ (by rw [HL.out]; omega)] at H2
    have H2 : At w0 (skew p (L.set q d) n :: F) w2 := H2
    clear H
    refine hK _ _ (.inl (by decide)) ?_
    clear hK K
    simp only [Act.put, Act.eval, List.setIfInBounds_toArray, List.set_cons_zero, List.set_cons_succ, Array.getD_eq_getD_getElem?, List.getElem?_toArray, List.getElem?_cons_zero, List.getElem?_cons_succ, Option.getD_some]
    refine wpM_end ?_
    clear hOps hS ops
    obtain ⟨L2, e2⟩ : ∃ L2, L2 = L.set q d := ⟨_, rfl⟩
    have HL2 := Lib.hid (show L2.length = 16 by rw [e2, List.length_set]; exact HL.out)
    rw [← e2] at H2
    have E2 := Lib.hid e2
    clear e2
    obtain ⟨n1, e3⟩ : ∃ n1, n1 = n + 1 := ⟨_, rfl⟩
    have hn1 : (n : Int) + 1 = (n1 : Int) := by omega
    have E3 := Lib.hid e3
    clear e3
    have hcn := skew_n H2 0 rfl HL2.out
    go_wp2_with ((with_reducible refine wpList_op rfl ?_); intro _ hK; refine wp_store_sl 3 _ _ rfl rfl (v := .int .i64 (n1 : Int)) (by go_simp) (by kernel_rfl) rfl 0 H2 rfl (by rw [skC_size, HL2.out]; omega) (fun w3 (H3 : At w0 (raw p ((skC L2 n).setIfInBounds 16 (.int .i64 (n1 : Int))) 27 :: F) w3) => hK _ _ ?_))
    rw [skC_setn _ _ HL2.out] at H3
    have H3 : At w0 (skew p L2 n1 :: F) w3 := H3
    go_ret
    have e2 := E2.out
    have e3 := E3.out
    subst e2 e3
    exact ⟨rfl, H3⟩
theorem add_c {w0 w : World} {F : List SP} {p : Nat} {D : List Int} (H : At w0 (skw p D :: F) w) (hn : D.length ≤ 1000000) {l r : Int} (hl0 : 0 ≤ l) (hl1 : l ≤ 18446744073709551615) (hr0 : 0 ≤ r) (hr1 : r ≤ 18446744073709551615) :
    Calls Try.prog 13 #[.pointer (some ⟨p, 0, none⟩), .int .u64 l, .int .u64 r] w fun e w' => e = .returned (.bool (apB l r)) ∧ At w0 (skw p (if apB l r = true then D ++ [apZ l r] else D) :: F) w' := by
  obtain ⟨⟨L, hL⟩, H⟩ := At.ex H
  refine (add_raw H hL.len hn hl0 hl1 hr0 hr1).mono ?_
  rintro e w' ⟨rfl, H⟩
  refine ⟨rfl, ?_⟩
  cases hb : apB l r
  · rw [hb, if_neg (by simp)] at H
    rw [if_neg (by simp)]
    exact At.mk_ex ⟨L, hL⟩ H
  · rw [hb, if_pos rfl] at H
    rw [if_pos rfl]
    have e1 : (D ++ [apZ l r]).length = D.length + 1 := by simp
    rw [← e1] at H
    exact At.mk_ex ⟨_, hL.add (apZ l r)⟩ H
end Go.Proofs.Ythhmgodnmgmjdaa
