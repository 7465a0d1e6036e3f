/-
  A difference that is too large is refused, and changes nothing: the law answers true for every input, and its arguments read as before.
-/
import Derived.Test.YthhmgodnmgmjdaaSkFacts
namespace Go.Proofs.Ythhmgodnmgmjdaa
open Go.ChangeShapes Go.WideShapes Go.ChangeAt Go.RowKit Go.Hg Go.Shelf
set_option linter.unusedSimpArgs false
set_option linter.unusedVariables false
theorem low63u (z : Int) : ∃ x : Int, bits .and .u64 z 9223372036854775807 = x ∧ 0 ≤ x ∧ x ≤ 9223372036854775807 := by
  refine ⟨_, rfl, ?_⟩
  have hm : (9223372036854775807 : Nat) % 2 ^ IntKind.u64.bits = 2 ^ 63 - 1 := rfl
  have hc : (9223372036854775807 : Int) = ((9223372036854775807 : Nat) : Int) := rfl
  have e : bits .and .u64 z 9223372036854775807 = IntKind.u64.wrap (((z % 18446744073709551616).toNat % 2 ^ 63 : Nat) : Int) := by
    have hb : ((2 ^ IntKind.u64.bits : Nat) : Int) = 18446744073709551616 := rfl
    rw [hc]
    simp only [bits, BitVec.ofInt_natCast, BitVec.toNat_and, BitVec.toNat_ofNat, BitVec.toNat_ofInt, hm, Nat.and_two_pow_sub_one_eq_mod, hb]
  have hl : (z % 18446744073709551616).toNat % 2 ^ 63 < 2 ^ 63 := Nat.mod_lt _ (by decide)
  rw [e, IntKind.wrap_u64]
  omega
set_option maxRecDepth 10000 in
set_option maxHeartbeats 1000000 in
theorem skewFar_walk (a : Option Addr) (len_ cap : Nat) (z : Int) (w : World) (h1 : PairRow w a len_ cap) (h2 : (Lit.int .u64 z).wf = true) :
    Calls Try.prog 9 #[.slice a len_ cap, .int .u64 z] w fun e w' => e = .returned (.bool true) ∧ Below w.heap.size w w' := by
  obtain ⟨hlen, hcap, b, off, f, g, hrow⟩ := h1
  clear h2
  have H := At.start w
  go_enter Try.func9, Try.ntmps9
  go_wp2_with fail
  refine (shown_c H).mono ?_; rintro e w' ⟨rfl, H⟩
  go_wp2_with ((with_reducible refine wpList_op rfl ?_); intro _ hK; refine wp_box_sl (v := .agg (skC (List.replicate 16 0) 0)) 27 _ rfl rfl H (fun p w' (H : At w [raw p (skC (List.replicate 16 0) 0) 27] w') _ => hK _ _ ?_))
  have H : At w [skw p []] w' := skw_new H
  go_loopw [7] (fun i wr => ∃ j : Nat, j ≤ 30 ∧ i = .int .i64 j ∧ At w [skw p (told f g j)] wr) (fun i _ => 30 - (intOf i).toNat)
  case atStart => exact ⟨0, by omega, rfl, H⟩
  case round =>
    clear H
    obtain ⟨j, hj, rfl, H⟩ := hrel
    by_cases g1 : (j : Int) < len_
    · by_cases g2 : (j : Int) < 30
      · obtain ⟨rfl, hblt, hc0, hc1, hf0, hf1, hg0, hg1⟩ := hrow j (by omega)
        have hlj : (told f g j).length ≤ 1000000 := by have := told_length f g j; omega
        obtain ⟨x, hx⟩ : ∃ x, x = apB (f j) (g j) := ⟨_, rfl⟩
        obtain ⟨D, hD⟩ : ∃ D, D = told f g (j + 1) := ⟨_, rfl⟩
        have hadd : ∀ (p : Nat) (wr : World) (F : List SP), At w (skw p (told f g j) :: F) wr → Calls Try.prog 13 #[.pointer (some ⟨p, 0, none⟩), .int .u64 (f j), .int .u64 (g j)] wr fun e w' => e = .returned (.bool x) ∧ At w (skw p D :: F) w' := fun p wr F H => by
          rw [hx, hD]
          exact add_c H hlj hf0 hf1 hg0 hg1
        have ac0 : ∀ w', At w [] w' → w'.cell? ⟨b, off + j * 2, none⟩ = some (.int .u64 (f j)) := fun w' h => (h.below.cell (p := ⟨b, off + j * 2, none⟩) hblt).trans hc0
        have ac1 : ∀ w', At w [] w' → w'.cell? ⟨b, off + j * 2 + 1, none⟩ = some (.int .u64 (g j)) := fun w' h => (h.below.cell (p := ⟨b, off + j * 2 + 1, none⟩) hblt).trans hc1
        have HD := Lib.hid hD
        clear hrow
        clear hx hD hc0 hc1 hf0 hf1 hg0 hg1 hlj
        generalize f j = fj at hadd ac0
        generalize g j = gj at hadd ac1
        go_wp2_with fail
        refine wpL_begin 12 (At w []) [(0, true), (1, true), (2, true), (3, true), (4, true), (5, true), (6, true), (7, true), (8, true), (9, true), (10, true), (11, false)] rfl (by kernel_rfl) (by kernel_rfl) ((H.drew.mask [])) ?_
        intro ops hOps hS
        replace H := H.drew
        refine wpL_take hOps hS rfl (fun _ _ _ h => h) (yl_move rfl _ rfl) ?_
        simp only [Act.put, Act.eval, List.setIfInBounds_toArray, List.set_cons_zero, List.set_cons_succ, Array.getD_eq_getD_getElem?, List.getElem?_toArray, List.getElem?_cons_zero, List.getElem?_cons_succ, Option.getD_some]
        refine wpL_take hOps hS rfl (fun _ _ _ h => h) (yl_move rfl _ rfl) ?_
        simp only [Act.put, Act.eval, List.setIfInBounds_toArray, List.set_cons_zero, List.set_cons_succ, Array.getD_eq_getD_getElem?, List.getElem?_toArray, List.getElem?_cons_zero, List.getElem?_cons_succ, Option.getD_some]
        refine wpL_take hOps hS rfl (fun _ _ _ h => h) (yl_move rfl _ rfl) ?_
        simp only [Act.put, Act.eval, List.setIfInBounds_toArray, List.set_cons_zero, List.set_cons_succ, Array.getD_eq_getD_getElem?, List.getElem?_toArray, List.getElem?_cons_zero, List.getElem?_cons_succ, Option.getD_some]
        refine wpL_take hOps hS (v := ?vOp15) rfl (fun _ _ _ h => h) (yl rfl ?yOp15) ?_
        case yOp15 => (intro w hw; go_simp; first | done | rfl)
        simp only [Act.put, Act.eval, List.setIfInBounds_toArray, List.set_cons_zero, List.set_cons_succ, Array.getD_eq_getD_getElem?, List.getElem?_toArray, List.getElem?_cons_zero, List.getElem?_cons_succ, Option.getD_some]
        refine wpL_take hOps hS (v := ?vOp17) rfl (fun _ _ _ h => h) (yl rfl ?yOp17) ?_
        case yOp17 => (intro w hw; go_simp; first | done | rfl)
        simp only [Act.put, Act.eval, List.setIfInBounds_toArray, List.set_cons_zero, List.set_cons_succ, Array.getD_eq_getD_getElem?, List.getElem?_toArray, List.getElem?_cons_zero, List.getElem?_cons_succ, Option.getD_some]
        refine wpL_take hOps hS rfl (fun _ _ _ h => h) (yl_get rfl _ _ rfl rfl (by kernel_rfl) ac0) ?_
        simp only [Act.put, Act.eval, List.setIfInBounds_toArray, List.set_cons_zero, List.set_cons_succ, Array.getD_eq_getD_getElem?, List.getElem?_toArray, List.getElem?_cons_zero, List.getElem?_cons_succ, Option.getD_some]
        refine wpL_take hOps hS rfl (fun _ _ _ h => h) (yl_move rfl _ rfl) ?_
        simp only [Act.put, Act.eval, List.setIfInBounds_toArray, List.set_cons_zero, List.set_cons_succ, Array.getD_eq_getD_getElem?, List.getElem?_toArray, List.getElem?_cons_zero, List.getElem?_cons_succ, Option.getD_some]
        refine wpL_take hOps hS rfl (fun _ _ _ h => h) (yl_move rfl _ rfl) ?_
        simp only [Act.put, Act.eval, List.setIfInBounds_toArray, List.set_cons_zero, List.set_cons_succ, Array.getD_eq_getD_getElem?, List.getElem?_toArray, List.getElem?_cons_zero, List.getElem?_cons_succ, Option.getD_some]
        refine wpL_take hOps hS (v := ?vOp27) rfl (fun _ _ _ h => h) (yl rfl ?yOp27) ?_
        case yOp27 => (intro w hw; go_simp; first | done | rfl)
        simp only [Act.put, Act.eval, List.setIfInBounds_toArray, List.set_cons_zero, List.set_cons_succ, Array.getD_eq_getD_getElem?, List.getElem?_toArray, List.getElem?_cons_zero, List.getElem?_cons_succ, Option.getD_some]
        refine wpL_take hOps hS (v := ?vOp29) rfl (fun _ _ _ h => h) (yl rfl ?yOp29) ?_
        case yOp29 => (intro w hw; go_simp; first | done | rfl)
        simp only [Act.put, Act.eval, List.setIfInBounds_toArray, List.set_cons_zero, List.set_cons_succ, Array.getD_eq_getD_getElem?, List.getElem?_toArray, List.getElem?_cons_zero, List.getElem?_cons_succ, Option.getD_some]
        refine wpL_take hOps hS rfl (fun _ _ _ h => h) (yl_get rfl _ _ rfl rfl (by kernel_rfl) ac1) ?_
        simp only [Act.put, Act.eval, List.setIfInBounds_toArray, List.set_cons_zero, List.set_cons_succ, Array.getD_eq_getD_getElem?, List.getElem?_toArray, List.getElem?_cons_zero, List.getElem?_cons_succ, Option.getD_some]
        refine wpL_next hOps rfl rfl ?_
        intro K hK
        refine wp_call _ _ _ rfl Try.func13 rfl (by kernel_rfl) ?_
        simp only [List.map_toArray, List.map_cons, List.map_nil, Act.eval, Array.getD_eq_getD_getElem?, List.getElem?_toArray, List.getElem?_cons_zero, List.getElem?_cons_succ, Option.getD_some]
        refine (hadd _ _ _ H).mono ?_; rintro e w' ⟨rfl, H⟩
        have hS := (H.mask [])
        refine hK _ _ hS ?_
        clear hK K
        simp only [Act.put, Act.eval, List.setIfInBounds_toArray, List.set_cons_zero, List.set_cons_succ, Array.getD_eq_getD_getElem?, List.getElem?_toArray, List.getElem?_cons_zero, List.getElem?_cons_succ, Option.getD_some]
        refine wpL_end ?_
        clear hOps hS ops
        go_wp2_with fail
        first
          | (refine ⟨?_, ?measure⟩; iterate 60 (try apply Exists.intro); refine ⟨?rel, rfl⟩)
          | refine ⟨?rel, ?measure⟩
        case rel => exact ⟨j + 1, by omega, by go_num, by have := HD.out; rw [← this]; exact H⟩
        case measure => simp [intOf]; omega
      · have hl := told_length f g j
        have hlj : (told f g j).length ≤ 1000000 := by omega
        generalize told f g j = D at H hlj
        clear hl hrow
        obtain ⟨t, ht, t0, t1⟩ := low63u z
        obtain ⟨s, hs⟩ : ∃ s : Int, s = 9223372036854775807 - t := ⟨_, rfl⟩
        obtain ⟨u, hu⟩ : ∃ u : Int, u = 9223372036854775808 + t := ⟨_, rfl⟩
        have w1 : IntKind.u64.wrap (9223372036854775807 - t) = s := by rw [IntKind.wrap_u64]; omega
        have w2 : IntKind.u64.wrap (18446744073709551615 - s) = u := by rw [IntKind.wrap_u64]; omega
        have na := fun (wr : World) (F : List SP) (H : At w (skw p D :: F) wr) => no_c H (l := t) (r := u) hlj t0 (by omega) (by omega) (by omega) (by omega)
        have nb := fun (wr : World) (F : List SP) (H : At w (skw p D :: F) wr) => no_c H (l := u) (r := t) hlj (by omega) (by omega) t0 (by omega) (by omega)
        clear hs hu
        go_wp2_with fail
        refine (bd_c H).mono ?_; rintro e w' ⟨rfl, H⟩
        go_wp2_with fail
        refine (ln_c H).mono ?_; rintro e w' ⟨rfl, H⟩
        go_wp2_with fail
        refine (na _ _ H).mono ?_; rintro e w' ⟨rfl, H⟩
        go_wp2_with fail
        refine (nb _ _ H).mono ?_; rintro e w' ⟨rfl, H⟩
        go_wp2_with fail
        refine (bd_c H).mono ?_; rintro e w' ⟨rfl, H⟩
        go_wp2_with fail
        refine (ln_c H).mono ?_; rintro e w' ⟨rfl, H⟩
        go_wp2
        go_ret
        exact ⟨rfl, H.below⟩
    · have hl := told_length f g j
      have hlj : (told f g j).length ≤ 1000000 := by omega
      generalize told f g j = D at H hlj
      clear hl hrow
      obtain ⟨t, ht, t0, t1⟩ := low63u z
      obtain ⟨s, hs⟩ : ∃ s : Int, s = 9223372036854775807 - t := ⟨_, rfl⟩
      obtain ⟨u, hu⟩ : ∃ u : Int, u = 9223372036854775808 + t := ⟨_, rfl⟩
      have w1 : IntKind.u64.wrap (9223372036854775807 - t) = s := by rw [IntKind.wrap_u64]; omega
      have w2 : IntKind.u64.wrap (18446744073709551615 - s) = u := by rw [IntKind.wrap_u64]; omega
      have na := fun (wr : World) (F : List SP) (H : At w (skw p D :: F) wr) => no_c H (l := t) (r := u) hlj t0 (by omega) (by omega) (by omega) (by omega)
      have nb := fun (wr : World) (F : List SP) (H : At w (skw p D :: F) wr) => no_c H (l := u) (r := t) hlj (by omega) (by omega) t0 (by omega) (by omega)
      clear hs hu
      go_wp2_with fail
      refine (bd_c H).mono ?_; rintro e w' ⟨rfl, H⟩
      go_wp2_with fail
      refine (ln_c H).mono ?_; rintro e w' ⟨rfl, H⟩
      go_wp2_with fail
      refine (na _ _ H).mono ?_; rintro e w' ⟨rfl, H⟩
      go_wp2_with fail
      refine (nb _ _ H).mono ?_; rintro e w' ⟨rfl, H⟩
      go_wp2_with fail
      refine (bd_c H).mono ?_; rintro e w' ⟨rfl, H⟩
      go_wp2_with fail
      refine (ln_c H).mono ?_; rintro e w' ⟨rfl, H⟩
      go_wp2
      go_ret
      exact ⟨rfl, H.below⟩
theorem skewFar_own : ownKnob Try.prog.godebug = none := by kernel_rfl
theorem skewFar_laid : laidOutB Try.prog = true := by kernel_rfl
set_option maxRecDepth 100000 in
theorem skewFar_lifted (os : Os) (started : os.Started) (H : Type) (enc : TypeId × Value → H) :
    ReturnsInHanded {} Try.checked os 9 .any (Rows.skewFarSpec.pre6 enc Try.prog Try.f9 Rows.skewFarRow.domain false) (Rows.skewFarSpec.post enc Try.prog Try.f9 false true false false) := by
  refine returnsInHanded_of_change (C := Try.checked) skewFar_own started (by kernel_rfl) Try.func9
    (ChangeSpec.witness6 (enc := enc) (C := Try.checked) false ⟨#[], #[.slice none 0 0, .int .u64 0], []⟩ 8 (by kernel_rfl) (by kernel_rfl) (by kernel_rfl) (by kernel_rfl)) ?_
  intro W base args ds gs before hval0 hW hcnd _
  have hval : ∀ (j : Nat) t v, Try.f9.params[j]? = some t → args[j]? = some v → Value.okWide Try.prog W .any base t v := hval0
  have hW' := hW
  obtain ⟨p, q, hA0, hV, rfl, hfz, hnd⟩ := hW
  have hA : DataW.TrodAll enc Try.prog W 0 (fun _ => true) true Try.f9.params.toList args.toList ds p := hA0
  rw [Try.params9] at hA hval
  obtain ⟨v0, vs0, d0, ds0, p0, q0, hargs, rfl, rfl, h0, r0⟩ := trodAll_cons hA
  obtain ⟨v1, vs1, d1, ds1, p1, q1, rfl, rfl, rfl, h1, r1⟩ := trodAll_cons r0
  obtain ⟨rfl, rfl, rfl⟩ := trodAll_nil r1
  obtain rfl : args = #[v0, v1] := by cases args; simp_all
  obtain ⟨rfl, rfl⟩ := trodVars_none hV
  have k0 := h0
  have lt0 : ∀ x ∈ p0, x.block < W.heap.size := by obtain ⟨m, hm⟩ := k0; exact DataW.trod_lt m _ _ _ hm
  have k1 := h1
  have lt1 : ∀ x ∈ p1, x.block < W.heap.size := by obtain ⟨m, hm⟩ := k1; exact DataW.trod_lt m _ _ _ hm
  obtain ⟨a0_0, a0_1, a0_2, f0, rfl⟩ := open_pairs (hval 0 22 v0 rfl rfl) h0
  obtain ⟨a1, rfl, rfl, rfl, f1⟩ := open_int Try.underlying33 (hval 1 33 v1 rfl rfl) h1
  clear hA0 hval0
  refine (skewFar_walk a0_0 a0_1 a0_2 a1 W f0 f1).mono fun e W' ⟨he, bel⟩ => ?_
  subst he
  exact ⟨_, rfl, _, _, _, [], _, [], hW', trodAll_mk1 (shut_bool Try.underlying4 _), (trodAll_cons_mk (Below.trod skewFar_laid (by kernel_rfl) (of_decide_eq_true (by kernel_rfl)) k0 bel lt0) (trodAll_cons_mk (Below.trod skewFar_laid (by kernel_rfl) (of_decide_eq_true (by kernel_rfl)) k1 bel lt1) trodAll_mk0)), rfl, bel.frame _, fun h => by cases h⟩
theorem skewFar_holds : Rows.SkewFarSaid :=
  OpenClaim.holds_of_wide 9 Try.f9 rfl rfl rfl rfl rfl rfl rfl ⟨rfl, rfl, rfl, rfl, rfl⟩ rfl rfl rfl rfl rfl (by kernel_rfl) Try.func9 (by kernel_rfl)
    (of_decide_eq_true (by kernel_rfl)) (by unfold Func.isWrapper; first | (rw [if_pos (by decide +kernel)]; kernel_rfl) | (rw [if_neg (by decide +kernel)]; exact ⟨rfl, rfl⟩))
    (fun os started H enc _ => skewFar_lifted os started H enc)
#print axioms skewFar_holds
end Go.Proofs.Ythhmgodnmgmjdaa
