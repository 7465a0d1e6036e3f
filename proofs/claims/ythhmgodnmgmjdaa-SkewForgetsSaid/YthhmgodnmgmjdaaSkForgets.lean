/-
  What is sixteen behind does not matter: the law answers true for every input, and its arguments read as before.
-/
import Derived.Test.YthhmgodnmgmjdaaSkFacts
namespace Go.Proofs.Ythhmgodnmgmjdaa
open Go.ChangeShapes Go.WideShapes Go.ChangeAt Go.RowKit Go.Hg Go.Shelf
set_option linter.unusedSimpArgs false
set_option linter.unusedVariables false
set_option maxRecDepth 10000 in
set_option maxHeartbeats 1000000 in
theorem skewForgets_walk (a : Option Addr) (len_ cap : Nat) (d : Int) (w : World) (h1 : PairRow w a len_ cap) (h2 : (Lit.int .i32 d).wf = true) :
    Calls Try.prog 5 #[.slice a len_ cap, .int .i32 d] w fun e w' => e = .returned (.bool true) ∧ Below w.heap.size w w' := by
  obtain ⟨hlen, hcap, b, off, f, g, hrow⟩ := h1
  have hb := bounds_i32 h2
  have hb0 : -2147483648 ≤ d := by omega
  have hb1 : d ≤ 2147483647 := by omega
  have hw1 : IntKind.i64.wrap d = d := by rw [IntKind.wrap_i64]; omega
  clear h2 hb
  have H := At.start w
  go_enter Try.func5, Try.ntmps5
  go_wp2_with fail
  refine (shown_c H).mono ?_; rintro e w' ⟨rfl, H⟩
  go_wp2_with ((with_reducible refine wpList_op rfl ?_); intro _ hK; refine wp_box_sl (v := .agg (skC (List.replicate 16 0) 0)) 27 _ rfl rfl H (fun p w' (H : At w [raw p (skC (List.replicate 16 0) 0) 27] w') _ => hK _ _ ?_))
  have H : At w [skw p []] w' := skw_new H
  rename_i K hK
  have tail : ∀ {u2 u3 u4 u7 u8 u9 u10 u11 u12 u13 u14 u15 u16 u17 u18 u19 u20 u21 u22 u23 u24 u25 u26 u27 u28 u29 u30 u31 u32 u33 u34 u35 u36 u37 u38 u39 u40 u41 u42 u43 u44 u45 u46 u47 u48 u49 u50 u51 u52 u53 u54 u55 u56 u57 u58 u59 u60 u61 u62 u63 u64 u65 u66 u67 u68 u69 u70 u71 u72 u73 u74 u75 u76 u77 u78 u79 u80 u81 u82 u83 u84 u85 u86 u87 u88 u89 u90 u91 u92 u93 u94 u95 u96 u97 : Value} {wr : World} {D : List Int}, At w [skw p D] wr → D.length ≤ 40 → K ⟨#[.slice a len_ cap, .int .i32 d, u2, u3, u4, .bool true, .pointer (some ⟨p, 0, none⟩), u7, u8, u9, u10, u11, u12, u13, u14, u15, u16, u17, u18, u19, u20, u21, u22, u23, u24, u25, u26, u27, u28, u29, u30, u31, u32, u33, u34, u35, u36, u37, u38, u39, u40, u41, u42, u43, u44, u45, u46, u47, u48, u49, u50, u51, u52, u53, u54, u55, u56, u57, u58, u59, u60, u61, u62, u63, u64, u65, u66, u67, u68, u69, u70, u71, u72, u73, u74, u75, u76, u77, u78, u79, u80, u81, u82, u83, u84, u85, u86, u87, u88, u89, u90, u91, u92, u93, u94, u95, u96, u97], []⟩ wr := by
    clear H hrow
    intro u2 u3 u4 u7 u8 u9 u10 u11 u12 u13 u14 u15 u16 u17 u18 u19 u20 u21 u22 u23 u24 u25 u26 u27 u28 u29 u30 u31 u32 u33 u34 u35 u36 u37 u38 u39 u40 u41 u42 u43 u44 u45 u46 u47 u48 u49 u50 u51 u52 u53 u54 u55 u56 u57 u58 u59 u60 u61 u62 u63 u64 u65 u66 u67 u68 u69 u70 u71 u72 u73 u74 u75 u76 u77 u78 u79 u80 u81 u82 u83 u84 u85 u86 u87 u88 u89 u90 u91 u92 u93 u94 u95 u96 u97 wr D H hD
    have HD := Lib.hid hD
    refine hK _ _ ?_
    clear hK K hD
    go_wp2_with fail
    go_loopw [8] (fun i wr => ∃ q : Nat, q ≤ 16 ∧ i = .int .i64 q ∧ At w [skw p (D ++ List.replicate q d)] wr) (fun i _ => 16 - (intOf i).toNat)
    case atStart => exact ⟨0, by omega, rfl, by simpa using H⟩
    case round =>
      clear H
      obtain ⟨q, hq, rfl, H⟩ := hrel
      by_cases g1 : (q : Int) < 16
      · obtain ⟨T, hT⟩ : ∃ T : Int, T = 1099511627776 + (q : Int) := ⟨_, rfl⟩
        have e1 : IntKind.u64.wrap (q : Int) = q := by rw [IntKind.wrap_u64]; omega
        have e2 : IntKind.u64.wrap (1099511627776 + (q : Int)) = T := by rw [IntKind.wrap_u64]; omega
        have e3 : IntKind.i64.wrap T = T := by rw [IntKind.wrap_i64]; omega
        have e4 : IntKind.i64.wrap (T + d) = T + d := by rw [IntKind.wrap_i64]; omega
        have e5 : IntKind.u64.wrap (T + d) = T + d := by rw [IntKind.wrap_u64]; omega
        have t0 : 0 ≤ T := by omega
        have t1 : T ≤ 1099511627792 := by omega
        have ya := fun (wr : World) (F : List SP) (H : At w (skw p (D ++ List.replicate q d) :: F) wr) => yes_c H (l := T) (r := T + d) (d := d) (by have := HD.out; simp; omega) t0 (by omega) (by omega) (by omega) (by omega) (by omega) (by omega)
        have RA := Lib.hid (show D ++ List.replicate (q + 1) d = D ++ List.replicate q d ++ [d] by rw [List.replicate_succ', List.append_assoc])
        clear hT
        go_wp2_with fail
        refine (ya _ _ H).mono ?_; rintro e w' ⟨rfl, H⟩
        go_wp2_with fail
        first
          | (refine ⟨?_, ?measure⟩; iterate 60 (try apply Exists.intro); refine ⟨?rel, rfl⟩)
          | refine ⟨?rel, ?measure⟩
        case rel => exact ⟨q + 1, by omega, by go_num, by rw [RA.out]; exact H⟩
        case measure => simp [intOf]; omega
      · obtain rfl : q = 16 := by omega
        obtain ⟨f1, f2, f3, f4⟩ := all_same (D := D ++ List.replicate 16 d) (by simp) forgets
        have f5 : len (D ++ List.replicate 16 d) = 16 := by unfold len; rw [last_length]; simp
        go_wp2_with fail
        refine (bd_c H).mono ?_; rintro e w' ⟨rfl, H⟩
        rw [f1, f2, f4]
        go_wp2_with fail
        refine (md_c H).mono ?_; rintro e w' ⟨rfl, H⟩
        rw [f3, f4]
        go_wp2_with fail
        refine (ln_c H).mono ?_; rintro e w' ⟨rfl, H⟩
        rw [f5]
        go_wp2
        go_ret
        exact ⟨rfl, H.below⟩
  clear hK
  go_loopw [7] (fun i wr => ∃ j : Nat, j ≤ 40 ∧ i = .int .i64 j ∧ At w [skw p (told f g j)] wr) (fun i _ => 40 - (intOf i).toNat)
  case atStart => exact ⟨0, by omega, rfl, H⟩
  case round =>
    clear H
    obtain ⟨j, hj, rfl, H⟩ := hrel
    have hlen40 : (told f g j).length ≤ 40 := by have := told_length f g j; omega
    by_cases g1 : (j : Int) < len_
    · by_cases g2 : (j : Int) < 40
      · clear tail
        obtain ⟨rfl, hblt, hc0, hc1, hf0, hf1, hg0, hg1⟩ := hrow j (by omega)
        have hlj : (told f g j).length ≤ 1000000 := by have := told_length f g j; omega
        obtain ⟨x, hx⟩ : ∃ x, x = apB (f j) (g j) := ⟨_, rfl⟩
        obtain ⟨D, hD⟩ : ∃ D, D = told f g (j + 1) := ⟨_, rfl⟩
        have hadd : ∀ (p : Nat) (wr : World) (F : List SP), At w (skw p (told f g j) :: F) wr → Calls Try.prog 13 #[.pointer (some ⟨p, 0, none⟩), .int .u64 (f j), .int .u64 (g j)] wr fun e w' => e = .returned (.bool x) ∧ At w (skw p D :: F) w' := fun p wr F H => by
          rw [hx, hD]
          exact add_c H hlj hf0 hf1 hg0 hg1
        have ac0 : ∀ w', At w [] w' → w'.cell? ⟨b, off + j * 2, none⟩ = some (.int .u64 (f j)) := fun w' h => (h.below.cell (p := ⟨b, off + j * 2, none⟩) hblt).trans hc0
        have ac1 : ∀ w', At w [] w' → w'.cell? ⟨b, off + j * 2 + 1, none⟩ = some (.int .u64 (g j)) := fun w' h => (h.below.cell (p := ⟨b, off + j * 2 + 1, none⟩) hblt).trans hc1
        have HD := Lib.hid hD
        clear hx hD hc0 hc1 hf0 hf1 hg0 hg1 hlj
        generalize f j = fj at hadd ac0
        generalize g j = gj at hadd ac1
        go_wp2_with fail
        refine wpL_begin 12 (At w []) [(0, true), (1, true), (2, true), (3, true), (4, true), (5, true), (6, true), (7, true), (8, true), (9, true), (10, true), (11, false)] rfl (by kernel_rfl) (by kernel_rfl) ((H.drew.mask [])) ?_
        intro ops hOps hS
        replace H := H.drew
        refine wpL_take hOps hS rfl (fun _ _ _ h => h) (yl_move rfl _ rfl) ?_
        simp only [Act.put, Act.eval, List.setIfInBounds_toArray, List.set_cons_zero, List.set_cons_succ, Array.getD_eq_getD_getElem?, List.getElem?_toArray, List.getElem?_cons_zero, List.getElem?_cons_succ, Option.getD_some]
        refine wpL_take hOps hS rfl (fun _ _ _ h => h) (yl_move rfl _ rfl) ?_
        simp only [Act.put, Act.eval, List.setIfInBounds_toArray, List.set_cons_zero, List.set_cons_succ, Array.getD_eq_getD_getElem?, List.getElem?_toArray, List.getElem?_cons_zero, List.getElem?_cons_succ, Option.getD_some]
        refine wpL_take hOps hS rfl (fun _ _ _ h => h) (yl_move rfl _ rfl) ?_
        simp only [Act.put, Act.eval, List.setIfInBounds_toArray, List.set_cons_zero, List.set_cons_succ, Array.getD_eq_getD_getElem?, List.getElem?_toArray, List.getElem?_cons_zero, List.getElem?_cons_succ, Option.getD_some]
        refine wpL_take hOps hS (v := ?vOp16) rfl (fun _ _ _ h => h) (yl rfl ?yOp16) ?_
        case yOp16 => (intro w hw; go_simp; first | done | rfl)
        simp only [Act.put, Act.eval, List.setIfInBounds_toArray, List.set_cons_zero, List.set_cons_succ, Array.getD_eq_getD_getElem?, List.getElem?_toArray, List.getElem?_cons_zero, List.getElem?_cons_succ, Option.getD_some]
        refine wpL_take hOps hS (v := ?vOp18) rfl (fun _ _ _ h => h) (yl rfl ?yOp18) ?_
        case yOp18 => (intro w hw; go_simp; first | done | rfl)
        simp only [Act.put, Act.eval, List.setIfInBounds_toArray, List.set_cons_zero, List.set_cons_succ, Array.getD_eq_getD_getElem?, List.getElem?_toArray, List.getElem?_cons_zero, List.getElem?_cons_succ, Option.getD_some]
        refine wpL_take hOps hS rfl (fun _ _ _ h => h) (yl_get rfl _ _ rfl rfl (by kernel_rfl) ac0) ?_
        simp only [Act.put, Act.eval, List.setIfInBounds_toArray, List.set_cons_zero, List.set_cons_succ, Array.getD_eq_getD_getElem?, List.getElem?_toArray, List.getElem?_cons_zero, List.getElem?_cons_succ, Option.getD_some]
        refine wpL_take hOps hS rfl (fun _ _ _ h => h) (yl_move rfl _ rfl) ?_
        simp only [Act.put, Act.eval, List.setIfInBounds_toArray, List.set_cons_zero, List.set_cons_succ, Array.getD_eq_getD_getElem?, List.getElem?_toArray, List.getElem?_cons_zero, List.getElem?_cons_succ, Option.getD_some]
        refine wpL_take hOps hS rfl (fun _ _ _ h => h) (yl_move rfl _ rfl) ?_
        simp only [Act.put, Act.eval, List.setIfInBounds_toArray, List.set_cons_zero, List.set_cons_succ, Array.getD_eq_getD_getElem?, List.getElem?_toArray, List.getElem?_cons_zero, List.getElem?_cons_succ, Option.getD_some]
        refine wpL_take hOps hS (v := ?vOp28) rfl (fun _ _ _ h => h) (yl rfl ?yOp28) ?_
        case yOp28 => (intro w hw; go_simp; first | done | rfl)
        simp only [Act.put, Act.eval, List.setIfInBounds_toArray, List.set_cons_zero, List.set_cons_succ, Array.getD_eq_getD_getElem?, List.getElem?_toArray, List.getElem?_cons_zero, List.getElem?_cons_succ, Option.getD_some]
        refine wpL_take hOps hS (v := ?vOp30) rfl (fun _ _ _ h => h) (yl rfl ?yOp30) ?_
        case yOp30 => (intro w hw; go_simp; first | done | rfl)
        simp only [Act.put, Act.eval, List.setIfInBounds_toArray, List.set_cons_zero, List.set_cons_succ, Array.getD_eq_getD_getElem?, List.getElem?_toArray, List.getElem?_cons_zero, List.getElem?_cons_succ, Option.getD_some]
        refine wpL_take hOps hS rfl (fun _ _ _ h => h) (yl_get rfl _ _ rfl rfl (by kernel_rfl) ac1) ?_
        simp only [Act.put, Act.eval, List.setIfInBounds_toArray, List.set_cons_zero, List.set_cons_succ, Array.getD_eq_getD_getElem?, List.getElem?_toArray, List.getElem?_cons_zero, List.getElem?_cons_succ, Option.getD_some]
        refine wpL_next hOps rfl rfl ?_
        intro K hK
        refine wp_call _ _ _ rfl Try.func13 rfl (by kernel_rfl) ?_
        simp only [List.map_toArray, List.map_cons, List.map_nil, Act.eval, Array.getD_eq_getD_getElem?, List.getElem?_toArray, List.getElem?_cons_zero, List.getElem?_cons_succ, Option.getD_some]
        refine (hadd _ _ _ H).mono ?_; rintro e w' ⟨rfl, H⟩
        have hS := (H.mask [])
        refine hK _ _ hS ?_
        clear hK K
        simp only [Act.put, Act.eval, List.setIfInBounds_toArray, List.set_cons_zero, List.set_cons_succ, Array.getD_eq_getD_getElem?, List.getElem?_toArray, List.getElem?_cons_zero, List.getElem?_cons_succ, Option.getD_some]
        refine wpL_end ?_
        clear hOps hS ops
        go_wp2_with fail
        first
          | (refine ⟨?_, ?measure⟩; iterate 60 (try apply Exists.intro); refine ⟨?rel, rfl⟩)
          | refine ⟨?rel, ?measure⟩
        case rel => exact ⟨j + 1, by omega, by go_num, by have := HD.out; rw [← this]; exact H⟩
        case measure => simp [intOf]; omega
      · go_wp2_with fail
        exact tail H hlen40
    · go_wp2_with fail
      exact tail H hlen40
theorem skewForgets_own : ownKnob Try.prog.godebug = none := by kernel_rfl
theorem skewForgets_laid : laidOutB Try.prog = true := by kernel_rfl
set_option maxRecDepth 100000 in
theorem skewForgets_lifted (os : Os) (started : os.Started) (H : Type) (enc : TypeId × Value → H) :
    ReturnsInHanded {} Try.checked os 5 .any (Rows.skewForgetsSpec.pre6 enc Try.prog Try.f5 Rows.skewForgetsRow.domain false) (Rows.skewForgetsSpec.post enc Try.prog Try.f5 false true false false) := by
  refine returnsInHanded_of_change (C := Try.checked) skewForgets_own started (by kernel_rfl) Try.func5
    (ChangeSpec.witness6 (enc := enc) (C := Try.checked) false ⟨#[], #[.slice none 0 0, .int .i32 0], []⟩ 8 (by kernel_rfl) (by kernel_rfl) (by kernel_rfl) (by kernel_rfl)) ?_
  intro W base args ds gs before hval0 hW hcnd _
  have hval : ∀ (j : Nat) t v, Try.f5.params[j]? = some t → args[j]? = some v → Value.okWide Try.prog W .any base t v := hval0
  have hW' := hW
  obtain ⟨p, q, hA0, hV, rfl, hfz, hnd⟩ := hW
  have hA : DataW.TrodAll enc Try.prog W 0 (fun _ => true) true Try.f5.params.toList args.toList ds p := hA0
  rw [Try.params5] at hA hval
  obtain ⟨v0, vs0, d0, ds0, p0, q0, hargs, rfl, rfl, h0, r0⟩ := trodAll_cons hA
  obtain ⟨v1, vs1, d1, ds1, p1, q1, rfl, rfl, rfl, h1, r1⟩ := trodAll_cons r0
  obtain ⟨rfl, rfl, rfl⟩ := trodAll_nil r1
  obtain rfl : args = #[v0, v1] := by cases args; simp_all
  obtain ⟨rfl, rfl⟩ := trodVars_none hV
  have k0 := h0
  have lt0 : ∀ x ∈ p0, x.block < W.heap.size := by obtain ⟨m, hm⟩ := k0; exact DataW.trod_lt m _ _ _ hm
  have k1 := h1
  have lt1 : ∀ x ∈ p1, x.block < W.heap.size := by obtain ⟨m, hm⟩ := k1; exact DataW.trod_lt m _ _ _ hm
  obtain ⟨a0_0, a0_1, a0_2, f0, rfl⟩ := open_pairs (hval 0 22 v0 rfl rfl) h0
  obtain ⟨a1, rfl, rfl, rfl, f1⟩ := open_int Try.underlying21 (hval 1 21 v1 rfl rfl) h1
  clear hA0 hval0
  refine (skewForgets_walk a0_0 a0_1 a0_2 a1 W f0 f1).mono fun e W' ⟨he, bel⟩ => ?_
  subst he
  exact ⟨_, rfl, _, _, _, [], _, [], hW', trodAll_mk1 (shut_bool Try.underlying4 _), (trodAll_cons_mk (Below.trod skewForgets_laid (by kernel_rfl) (of_decide_eq_true (by kernel_rfl)) k0 bel lt0) (trodAll_cons_mk (Below.trod skewForgets_laid (by kernel_rfl) (of_decide_eq_true (by kernel_rfl)) k1 bel lt1) trodAll_mk0)), rfl, bel.frame _, fun h => by cases h⟩
theorem skewForgets_holds : Rows.SkewForgetsSaid :=
  OpenClaim.holds_of_wide 5 Try.f5 rfl rfl rfl rfl rfl rfl rfl ⟨rfl, rfl, rfl, rfl, rfl⟩ rfl rfl rfl rfl rfl (by kernel_rfl) Try.func5 (by kernel_rfl)
    (of_decide_eq_true (by kernel_rfl)) (by unfold Func.isWrapper; first | (rw [if_pos (by decide +kernel)]; kernel_rfl) | (rw [if_neg (by decide +kernel)]; exact ⟨rfl, rfl⟩))
    (fun os started H enc _ => skewForgets_lifted os started H enc)
#print axioms skewForgets_holds
end Go.Proofs.Ythhmgodnmgmjdaa
