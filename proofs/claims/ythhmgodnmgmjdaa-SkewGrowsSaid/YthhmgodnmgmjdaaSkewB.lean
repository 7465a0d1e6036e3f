/-
  A skew's differences, sorted: Values, Collect, Sort, Sorted; then Bound and Middle.
-/
import Derived.Shelf.SortG.SortNone
import Derived.Test.YthhmgodnmgmjdaaSkewA
import Derived.Test.YthhmgodnmgmjdaaSeq
import Derived.Test.YthhmgodnmgmjdaaSortAt
import Derived.Test.YthhmgodnmgmjdaaLay
import Derived.Test.YthhmgodnmgmjdaaSkLaw
namespace Go.Proofs.Ythhmgodnmgmjdaa
open Go.RowKit Go.Hg Go.Shelf
set_option linter.unusedSimpArgs false
set_option linter.unusedVariables false
theorem el_64 : El Try.prog 2 1 8 (ic .i64) := ⟨⟨.int .i64 0, by kernel_rfl, rfl⟩, fun _ => rfl, fun x u hu => by simp [ic] at hu; subst hu; rfl⟩
abbrev row64 (v : Value) (zs : List Int) : SP := lrow 2 1 (ic .i64) v zs
theorem ring_slice (w : World) (p : Nat) {m : Nat} (hm : m ≤ 16) : (Instr.sliceAt 25 (.pointer (some ⟨p, 0, none⟩)) none (some (.int .i64 (m : Int))) none).run Try.prog w = .ok (.slice (some ⟨p, 0, none⟩) m 16) w := by
  have hal : Try.prog.arrayLen 25 = 16 := by kernel_rfl
  rw [run_sliceAt_array_h w 25 ⟨p, 0, none⟩ (by kernel_rfl) .i64 (m : Int) (by omega) (by rw [hal]; omega), hal]
  have hsz : (sizeOf (Try.prog.elem 25)).run Try.prog w = .ok 1 w := by kernel_rfl
  rw [hsz]
  simp [slicedAt]
  rfl
set_option maxRecDepth 10000 in
theorem values_c {w0 w : World} {F : List SP} (H : At w0 F w) (a : Option Addr) (n cap : Nat) :
    Calls Try.prog 24 #[.slice a n cap] w fun e w' => ∃ Bs, e = .returned (.func (.func 29) #[] #[.pointer (some ⟨Bs, 0, none⟩)]) ∧ At w0 (raw Bs #[.slice a n cap] 29 :: F) w' := by
  go_enter Try.func24, Try.ntmps24
  go_wp2_with ((with_reducible refine wpList_op rfl ?_); intro _ hK; refine wp_box_sl (v := .slice a n cap) 29 _ rfl rfl H (fun Bs w' (H : At w0 (raw Bs #[.slice a n cap] 29 :: F) w') _ => hK _ _ ?_))
  go_ret
  exact ⟨_, rfl, H⟩
set_option maxRecDepth 10000 in
theorem collect_c {w0 w : World} {F : List SP} {Bs p cap : Nat} {zs : List Int} (H : At w0 (raw Bs #[.slice (some ⟨p, 0, none⟩) zs.length cap] 29 :: F) w) (hl : zs.length ≤ 1000000) (hp : p < w.heap.size)
    (hc : ∀ j, j < zs.length → w.cell? ⟨p, 0 + j, none⟩ = some (.int .i64 (zs[j]?.getD 0))) :
    Calls Try.prog 27 #[.func (.func 29) #[] #[.pointer (some ⟨Bs, 0, none⟩)]] w fun e w' => ∃ a c, e = .returned (.slice a zs.length c) ∧ At w0 (row64 (.slice a zs.length c) zs :: raw Bs #[.slice (some ⟨p, 0, none⟩) zs.length cap] 29 :: F) w' := by
  have hb := raw_cell (H.heap 0 rfl) 0
  have hB : Bs < w.heap.size := (Array.getElem?_eq_some_iff.1 (H.heap 0 rfl)).1
  have h : Calls Try.prog 30 #[.slice none 0 0, .func (.func 29) #[] #[.pointer (some ⟨Bs, 0, none⟩)]] w _ := (callsIn_wide (n := 2)).1 (appendSeq_in Fence.wide 2 trivial trivial rfl (by decide) Bs p 0 cap zs hl w hB hp hb hc)
  go_enter Try.func27, Try.ntmps27
  go_wp2_with fail
  refine h.mono ?_
  rintro e w' ⟨v, rfl, ho, hg⟩
  obtain ⟨a, c, rfl, H'⟩ := H.lrow_gain hg ho
  go_wp2
  go_ret
  exact ⟨a, c, rfl, H'⟩
theorem sort_c {w0 w : World} {F : List SP} {a : Option Addr} {cap : Nat} {zs : List Int} (H : At w0 (row64 (.slice a zs.length cap) zs :: F) w) (hl : zs.length ≤ 1000000) :
    Calls Try.prog 28 #[.slice a zs.length cap] w fun e w' => e = .returned (.tuple #[]) ∧ At w0 (row64 (.slice a zs.length cap) (srt zs) :: F) w' := by
  by_cases h0 : 0 < zs.length
  · obtain ⟨g, off, rfl⟩ := lrow_place H 0 rfl h0
    obtain ⟨hh, hb⟩ := lrow_holds el_64 H
    have h := AnyG.slices_Sort_int sortI g off cap zs w hh hb (by omega)
    change Calls Try.prog 28 _ w _ at h
    refine h.mono ?_
    rintro e w' ⟨rfl, n, os, rfl⟩
    have H2 := At.lrow_sorted H n os (zs' := srt zs) (srt_length zs)
    rw [srt_length] at H2
    exact ⟨rfl, H2⟩
  · obtain rfl : zs = [] := List.eq_nil_of_length_eq_zero (by omega)
    have h := AnyG.slices_Sort_int_none sortI a cap w
    change Calls Try.prog 28 _ w _ at h
    refine h.mono ?_
    rintro e w' ⟨rfl, rfl⟩
    exact ⟨rfl, by simpa [srt] using H⟩
set_option maxRecDepth 10000 in
theorem sorted_c {w0 w : World} {F : List SP} {Bs p cap : Nat} {zs : List Int} (H : At w0 (raw Bs #[.slice (some ⟨p, 0, none⟩) zs.length cap] 29 :: F) w) (hl : zs.length ≤ 1000000) (hp : p < w.heap.size)
    (hc : ∀ j, j < zs.length → w.cell? ⟨p, 0 + j, none⟩ = some (.int .i64 (zs[j]?.getD 0))) :
    Calls Try.prog 23 #[.func (.func 29) #[] #[.pointer (some ⟨Bs, 0, none⟩)]] w fun e w' => ∃ a c, e = .returned (.slice a zs.length c) ∧ At w0 (row64 (.slice a zs.length c) (srt zs) :: raw Bs #[.slice (some ⟨p, 0, none⟩) zs.length cap] 29 :: F) w' := by
  have h := collect_c H hl hp hc
  go_enter Try.func23, Try.ntmps23
  go_wp2_with fail
  refine h.mono ?_
  rintro e w' ⟨a, c, rfl, H'⟩
  go_wp2_with fail
  refine (sort_c H' hl).mono ?_
  rintro e w' ⟨rfl, H2⟩
  go_wp2
  go_ret
  exact ⟨a, c, rfl, H2⟩
set_option maxRecDepth 10000 in
set_option maxHeartbeats 1000000 in
theorem all_c {w0 w : World} {F : List SP} {p : Nat} {L : List Int} {n : Nat} (H : At w0 (skew p L n :: F) w) (hL : L.length = 16) :
    Calls Try.prog 20 #[.pointer (some ⟨p, 0, none⟩)] w fun e w' => ∃ a c, e = .returned (.slice a (min n 16) c) ∧ At w0 (row64 (.slice a (min n 16) c) (srt (L.take (min n 16))) :: skew p L n :: F) w' := by
  obtain ⟨m, hm⟩ : ∃ m : Nat, m = min n 16 := ⟨_, rfl⟩
  have hm16 : m ≤ 16 := by omega
  rw [← hm]
  have HM := Lib.hid hm
  clear hm
  have hzl : (L.take m).length = m := by simp; omega
  have HZ := Lib.hid hzl
  have HL := Lib.hid hL
  clear hzl hL
  go_enter Try.func20, Try.ntmps20
  go_wp2_with fail
  refine wpL_begin 8 (At w0 (skew p L n :: F)) [(0, true), (1, true), (2, true), (3, true), (4, false), (5, true), (6, false), (7, false), (8, false)] rfl (by kernel_rfl) (by kernel_rfl) ((H.drew)) ?_
  intro ops hOps hS
  replace H := H.drew
  refine wpL_take hOps hS rfl (fun _ _ _ h => h) (yl_move rfl _ rfl) ?_
  simp only [Act.put, Act.eval, List.setIfInBounds_toArray, List.set_cons_zero, List.set_cons_succ, Array.getD_eq_getD_getElem?, List.getElem?_toArray, List.getElem?_cons_zero, List.getElem?_cons_succ, Option.getD_some]
  refine wpL_take hOps hS rfl (fun _ _ _ h => h) (yl_nil rfl _ rfl _ rfl) ?_
  simp only [Act.put, Act.eval, List.setIfInBounds_toArray, List.set_cons_zero, List.set_cons_succ, Array.getD_eq_getD_getElem?, List.getElem?_toArray, List.getElem?_cons_zero, List.getElem?_cons_succ, Option.getD_some]
  refine wpL_take hOps hS (v := ?vOp8) rfl (fun _ _ _ h => h) (yl rfl ?yOp8) ?_
  case yOp8 => (intro w hw; go_simp; first | done | rfl)
  simp only [Act.put, Act.eval, List.setIfInBounds_toArray, List.set_cons_zero, List.set_cons_succ, Array.getD_eq_getD_getElem?, List.getElem?_toArray, List.getElem?_cons_zero, List.getElem?_cons_succ, Option.getD_some]
  refine wpL_take hOps hS rfl (fun _ _ _ h => h) (yl_move rfl _ rfl) ?_
  simp only [Act.put, Act.eval, List.setIfInBounds_toArray, List.set_cons_zero, List.set_cons_succ, Array.getD_eq_getD_getElem?, List.getElem?_toArray, List.getElem?_cons_zero, List.getElem?_cons_succ, Option.getD_some]
  refine wpL_next hOps rfl rfl ?_
  intro K hK
  refine wp_call _ _ _ rfl Try.func15 rfl (by kernel_rfl) ?_
  simp only [List.map_toArray, List.map_cons, List.map_nil, Act.eval, Array.getD_eq_getD_getElem?, List.getElem?_toArray, List.getElem?_cons_zero, List.getElem?_cons_succ, Option.getD_some]
  refine (len_c H HL.out).mono ?_
  rintro e w1 ⟨rfl, rfl⟩
  rw [← HM.out]
  have hS := (H)
  refine hK _ _ hS ?_
  clear hK K
  simp only [Act.put, Act.eval, List.setIfInBounds_toArray, List.set_cons_zero, List.set_cons_succ, Array.getD_eq_getD_getElem?, List.getElem?_toArray, List.getElem?_cons_zero, List.getElem?_cons_succ, Option.getD_some]
  refine wpL_take hOps hS (v := .slice (some ⟨p, 0, none⟩) m 16) rfl (fun _ _ _ h => h) (yl rfl ?yRing) ?_
  case yRing => (intro w hw; go_simp; rw [ring_slice w p hm16]; rfl)
  simp only [Act.put, Act.eval, List.setIfInBounds_toArray, List.set_cons_zero, List.set_cons_succ, Array.getD_eq_getD_getElem?, List.getElem?_toArray, List.getElem?_cons_zero, List.getElem?_cons_succ, Option.getD_some]
  refine wpL_next hOps rfl rfl ?_
  intro K hK
  refine wp_call _ _ _ rfl Try.func24 rfl (by kernel_rfl) ?_
  simp only [List.map_toArray, List.map_cons, List.map_nil, Act.eval, Array.getD_eq_getD_getElem?, List.getElem?_toArray, List.getElem?_cons_zero, List.getElem?_cons_succ, Option.getD_some]
  refine (values_c H _ m 16).mono ?_
  rintro e w2 ⟨Bs, rfl, H2⟩
  have hS := (H2.tail)
  refine hK _ _ hS ?_
  clear hK K
  simp only [Act.put, Act.eval, List.setIfInBounds_toArray, List.set_cons_zero, List.set_cons_succ, Array.getD_eq_getD_getElem?, List.getElem?_toArray, List.getElem?_cons_zero, List.getElem?_cons_succ, Option.getD_some]
  have hcells : ∀ j, j < (L.take m).length → w2.cell? ⟨p, 0 + j, none⟩ = some (.int .i64 ((L.take m)[j]?.getD 0)) := by
    intro j hj
    have h16 := HL.out
    have hj2 : j < m := by simp at hj; omega
    rw [Nat.zero_add, skew_cell H2 1 rfl (by omega), List.getElem?_take, if_pos hj2]
    simp [gz, List.getD]
  have hp : p < w2.heap.size := (Array.getElem?_eq_some_iff.1 (H2.heap 1 rfl)).1
  refine wpL_next hOps rfl rfl ?_
  intro K hK
  refine wp_call _ _ _ rfl Try.func23 rfl (by kernel_rfl) ?_
  simp only [List.map_toArray, List.map_cons, List.map_nil, Act.eval, Array.getD_eq_getD_getElem?, List.getElem?_toArray, List.getElem?_cons_zero, List.getElem?_cons_succ, Option.getD_some]
  have H3 := H2
  rw [← HZ.out] at H3
  refine (sorted_c H3 (by rw [HZ.out]; omega) hp hcells).mono ?_
  rintro e w3 ⟨a, c, rfl, H4⟩
  rw [HZ.out] at H4 ⊢
  have hS := (H4.tail.tail)
  refine hK _ _ hS ?_
  clear hK K
  simp only [Act.put, Act.eval, List.setIfInBounds_toArray, List.set_cons_zero, List.set_cons_succ, Array.getD_eq_getD_getElem?, List.getElem?_toArray, List.getElem?_cons_zero, List.getElem?_cons_succ, Option.getD_some]
  refine wpL_last hOps rfl rfl ?_
  intro K hK
  refine wp_run rfl ?_
  refine hK _ _ ?_
  clear hK K hOps hS ops
  simp only [Act.put, Act.eval, List.setIfInBounds_toArray, List.set_cons_zero, List.set_cons_succ, Array.getD_eq_getD_getElem?, List.getElem?_toArray, List.getElem?_cons_zero, List.getElem?_cons_succ, Option.getD_some]
  go_wp2
  go_ret
  exact ⟨a, c, rfl, (H4.pull 1 rfl).tail⟩
end Go.Proofs.Ythhmgodnmgmjdaa
