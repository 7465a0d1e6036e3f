/-
  A route of fewer hops begins as the one of more does: the law answers true for every input, and its arguments read as before.
-/
import Derived.Test.YtddddlphnoicpaaRows
import Derived.Test.YtddddlphnoicpaaRouteP
namespace Go.Proofs.Ytddddlphnoicpaa
open Go.ChangeShapes Go.WideShapes Go.ChangeAt Go.RowKit Go.Hg
set_option linter.unusedSimpArgs false
set_option linter.unusedVariables false
theorem wrong_less {nw : Nat} {xs : List Int} {hops last n : Int} (h : wrongZ nw xs hops last = 0) (h1 : 1 ≤ n) (h2 : n ≤ hops) : wrongZ nw xs n last = 0 := by
  obtain ⟨b1, b2, b3, b4, b5, b6, b7⟩ := wrong_ok h
  unfold wrongZ
  rw [if_neg (by
    rintro (h | h | h | h)
    · omega
    · omega
    · omega
    · rw [b4] at h; cases h), if_neg (not_not_intro b5), if_neg (by omega), if_neg (by omega)]
theorem drawn_more (ws vs left : List Int) : ∃ o, (drawn (ws ++ vs) left).1 = (drawn ws left).1 ++ o := by
  have key : ∀ (vs : List Int) (p : List Int × List Int), ∃ o, (vs.foldl lstep p).1 = p.1 ++ o := by
    intro vs
    induction vs with
    | nil => intro p; exact ⟨[], by simp⟩
    | cons x vs ih =>
      intro p
      obtain ⟨o, ho⟩ := ih (lstep p x)
      refine ⟨[gz p.2 (x % (p.2.length : Int)).toNat] ++ o, ?_⟩
      rw [List.foldl_cons, ho, ← List.append_assoc]
      rfl
  unfold drawn
  rw [List.foldl_append]
  exact key vs _
theorem begins_plain {ws xs : List Int} {hops last : Int} {y : Nat} (h : wrongZ ws.length xs hops last = 0) (hy : (y : Int) + 1 ≤ hops) :
    (drawR ws xs ((y : Int) + 1) last).take y = (drawR ws xs hops last).take y := by
  have h2 := wrong_less (n := (y : Int) + 1) h (by omega) hy
  obtain ⟨b1, b2, b3, b4, b5, b6, b7⟩ := wrong_ok h
  have hl := others_length (rises_nodup b4) b5
  have e1 : ws.take (hops - 1).toNat = ws.take y ++ (ws.take (hops - 1).toNat).drop y := by
    have := List.take_append_drop y (ws.take (hops - 1).toNat)
    rw [List.take_take, Nat.min_eq_left (by omega)] at this
    exact this.symm
  have e2 : (drawn (ws.take y) (others last xs)).1.length = y := by rw [drawn_length (by rw [List.length_take]; omega), List.length_take]; omega
  obtain ⟨o, ho⟩ := drawn_more (ws.take y) ((ws.take (hops - 1).toNat).drop y) (others last xs)
  rw [← e1] at ho
  unfold drawR
  rw [if_pos h2, if_pos h, ho, show ((y : Int) + 1 - 1).toNat = y by omega, List.append_assoc]
  rw [List.take_append_of_le_length (by omega), List.take_append_of_le_length (by omega)]
theorem mod_pos (a b : Int) (hb : 0 < b) : ∃ y : Nat, a % b = y ∧ (y : Int) < b := by
  have h1 := Int.emod_nonneg a (b := b) (by omega)
  have h2 := Int.emod_lt_of_pos a hb
  exact ⟨(a % b).toNat, by omega, by omega⟩
set_option maxRecDepth 10000 in
set_option maxHeartbeats 2000000 in
theorem routeBegins_walk (a : Option Addr) (len cap : Nat) (a2 : Option Addr) (len2 cap2 : Nat) (hops less last : Int) (w : World) (h1 : IntRow .u64 w a len ∧ len ≤ cap) (h2 : IntRow .u16 w a2 len2 ∧ len2 ≤ cap2) (h3 : (Lit.int .i64 hops).wf = true) (h5 : (Lit.int .i64 less).wf = true) (h4 : (Lit.int .u16 last).wf = true) :
    Calls Try.prog 7 #[.slice a len cap, .slice a2 len2 cap2, .int .i64 hops, .int .i64 less, .int .u16 last] w fun e w' => e = .returned (.bool true) ∧ Below w.heap.size w w' := by
  obtain ⟨h1, hcap⟩ := h1
  obtain ⟨h2, hcap2⟩ := h2
  obtain ⟨b, off, v, hlen, hcell⟩ := intRow_fn h1
  obtain ⟨b2, off2, v2, hlen2, hcell2⟩ := intRow_fn h2
  clear h1 h2
  have H := At.start w
  obtain ⟨m, hm⟩ : ∃ m : Nat, m = min len 20 := ⟨_, rfl⟩
  obtain ⟨n, hn⟩ : ∃ n : Nat, n = min len2 40 := ⟨_, rfl⟩
  have hmin : (if (20 : Int) < (len : Int) then (20 : Int) else (len : Int)) = (m : Int) := by split <;> omega
  have hmin2 : (if (40 : Int) < (len2 : Int) then (40 : Int) else (len2 : Int)) = (n : Int) := by split <;> omega
  have hc1 : (m : Int) ≤ cap := by omega
  have hc2 : (n : Int) ≤ cap2 := by omega
  have hw := Lib.hid (fun (F : List SP) => sees_arg (F := F) (m := m) (by omega) hcap hcell)
  have hv := Lib.hid (fun (F : List SP) => sees_arg (F := F) (m := n) (by omega) hcap2 hcell2)
  have hwb := Lib.hid (words_bound2 (v := v) (k := m) (fun i hi => bounds_u64 (hcell i hi).2.2) (by omega))
  have hnl : n ≤ 40 := by omega
  have hml : m ≤ 20 := by omega
  have hxl : ((List.range n).map v2).length = n := by simp
  have hwl : ((List.range m).map v).length = m := by simp
  obtain ⟨ws, hws⟩ : ∃ ws, ws = (List.range m).map v := ⟨_, rfl⟩
  obtain ⟨xs, hxs⟩ : ∃ xs, xs = (List.range n).map v2 := ⟨_, rfl⟩
  rw [← hws] at hw hwb hwl
  rw [← hxs] at hv hxl
  clear hcell hcell2 hm hn hcap hcap2 hws hxs
  obtain ⟨x0, hx0, hx0a, hx0b⟩ := low16 less
  go_enter Try.func7, Try.ntmps7
  go_wp2_with fail
  refine (shown_c H).mono ?_; rintro e w' ⟨rfl, H⟩
  go_wp2_with fail
  clear hmin hmin2
  refine (draw_c H (hw.out _) (hv.out _) hwb.out (by omega) hops last).mono ?_; rintro e w' ⟨ra, rc, rfl, H⟩
  by_cases hz : wrongZ ws.length xs hops last = 0
  · obtain ⟨r1, _, _, _⟩ := drawR_ok hz
    have hN := drawN_ok hz
    obtain ⟨b1, b2, _⟩ := wrong_ok hz
    obtain ⟨y, hy, hyb⟩ := mod_pos x0 hops (by omega)
    have hz2 := wrong_less (n := (y : Int) + 1) hz (by omega) (by omega)
    obtain ⟨s1, _, _, s4⟩ := drawR_ok hz2
    have hN2 := drawN_ok hz2
    have hbp := begins_plain (y := y) hz (by omega)
    rw [show ((y : Int) + 1 - 1).toNat = y by omega] at s4
    obtain ⟨R, hR⟩ : ∃ R, R = drawR ws xs hops last := ⟨_, rfl⟩
    obtain ⟨S, hS⟩ : ∃ S, S = drawR ws xs ((y : Int) + 1) last := ⟨_, rfl⟩
    rw [← hR] at r1 hbp H ⊢
    rw [← hS] at s1 s4 hbp
    rw [hz, hN]
    have HS := Lib.hid hS
    have HZ2 := Lib.hid hz2
    have HN2 := Lib.hid hN2
    have HBP := Lib.hid hbp
    have S4 := Lib.hid s4
    clear hR hz hN hz2 hN2 hS hbp s4
    have hn1 : (1 : Int) + y = (y : Int) + 1 := by omega
    have hne : ¬ hops = 0 := by omega
    have r1' : hops = (R.length : Int) := r1.symm
    subst r1'
    clear r1
    have s1' : (S.length : Int) = (y : Int) + 1 := s1
    clear s1
    go_wp2_with fail
    refine (draw_c (F := [lrow 25 1 (ic .u16) (.slice ra R.length rc) R]) H (hw.out _) (hv.out _) hwb.out (by omega) ((y : Int) + 1) last).mono ?_; rintro e w' ⟨rb, rd, rfl, H⟩
    rw [← HS.out] at H
    rw [← HS.out, HZ2.out, HN2.out]
    obtain ⟨gr, or_, rfl⟩ := lrow_place H 1 rfl (by omega)
    obtain ⟨gs, os, rfl⟩ := lrow_place H 0 rfl (by omega)
    have hcs : w'.cell? ⟨gs, os + y, none⟩ = some (.int .u16 last) := by
      have := lrow_cell el_a (j := 0) H 0 rfl (gz_get (xs := S) (i := y) (by omega)) rfl
      rw [S4.out] at this
      simpa using this
    have tS := (sees_own el_a H 0 rfl).take
    have tR := (sees_own el_a H 1 rfl).take
    obtain ⟨a5, c5, e5, q5, f5⟩ := tS
    obtain ⟨a6, c6, e6, q6, f6⟩ := tR
    cases e5
    cases e6
    have FS := Lib.hid (f5 y (by omega))
    have FR := Lib.hid (f6 y (by omega))
    have p1 : (y : Int) ≤ rd := by omega
    have p2 : (y : Int) ≤ rc := by omega
    have p3 : (y : Int) < S.length := by omega
    have p4 : y ≤ rd := by omega
    have p5 : y ≤ rc := by omega
    have p6 : IntKind.i64.wrap ((y : Int) + 1 - 1) = (y : Int) := by rw [IntKind.wrap_i64]; omega
    have p7 : IntKind.i64.wrap (y : Int) = (y : Int) := by rw [IntKind.wrap_i64]; omega
    have hl5 : (S.take y).length ≤ 1000000 := by rw [List.length_take]; omega
    have HL5 := Lib.hid hl5
    clear f5 f6 hl5 q5 q6
    go_wp2_with fail
    refine wpL_begin 12 (At w [lrow 25 1 (ic .u16) (.slice (some ⟨gs, os, none⟩) S.length rd) S, lrow 25 1 (ic .u16) (.slice (some ⟨gr, or_, none⟩) R.length rc) R]) [(0, true), (1, true), (2, true), (3, true), (4, true), (5, true), (6, true), (7, true), (8, true), (9, true), (10, false), (11, true), (12, false)] rfl (by kernel_rfl) (by kernel_rfl) ((H.drew)) ?_
    intro ops hOps hS
    replace H := H.drew
    refine wpL_take hOps hS rfl (fun _ _ _ h => h) (yl_move rfl _ rfl) ?_
    simp only [Act.put, Act.eval, List.setIfInBounds_toArray, List.set_cons_zero, List.set_cons_succ, Array.getD_eq_getD_getElem?, List.getElem?_toArray, List.getElem?_cons_zero, List.getElem?_cons_succ, Option.getD_some]
    refine wpL_take hOps hS rfl (fun _ _ _ h => h) (yl_move rfl _ rfl) ?_
    simp only [Act.put, Act.eval, List.setIfInBounds_toArray, List.set_cons_zero, List.set_cons_succ, Array.getD_eq_getD_getElem?, List.getElem?_toArray, List.getElem?_cons_zero, List.getElem?_cons_succ, Option.getD_some]
    refine wpL_take hOps hS rfl (fun _ _ _ h => h) (yl_move rfl _ rfl) ?_
    simp only [Act.put, Act.eval, List.setIfInBounds_toArray, List.set_cons_zero, List.set_cons_succ, Array.getD_eq_getD_getElem?, List.getElem?_toArray, List.getElem?_cons_zero, List.getElem?_cons_succ, Option.getD_some]
    refine wpL_take hOps hS rfl (fun _ _ _ h => h) (yl_move rfl _ rfl) ?_
    simp only [Act.put, Act.eval, List.setIfInBounds_toArray, List.set_cons_zero, List.set_cons_succ, Array.getD_eq_getD_getElem?, List.getElem?_toArray, List.getElem?_cons_zero, List.getElem?_cons_succ, Option.getD_some]
    refine wpL_take hOps hS (v := ?vOp15) rfl (fun _ _ _ h => h) (yl rfl ?yOp15) ?_
    case yOp15 => (intro w hw; go_simp; first | done | rfl)
    simp only [Act.put, Act.eval, List.setIfInBounds_toArray, List.set_cons_zero, List.set_cons_succ, Array.getD_eq_getD_getElem?, List.getElem?_toArray, List.getElem?_cons_zero, List.getElem?_cons_succ, Option.getD_some]
    refine wpL_take hOps hS (v := ?vOp17) rfl (fun _ _ _ h => h) (yl rfl ?yOp17) ?_
    case yOp17 => (intro w hw; go_simp; first | done | rfl)
    simp only [Act.put, Act.eval, List.setIfInBounds_toArray, List.set_cons_zero, List.set_cons_succ, Array.getD_eq_getD_getElem?, List.getElem?_toArray, List.getElem?_cons_zero, List.getElem?_cons_succ, Option.getD_some]
    refine wpL_take hOps hS rfl (fun _ _ _ h => h) (yl_move rfl _ rfl) ?_
    simp only [Act.put, Act.eval, List.setIfInBounds_toArray, List.set_cons_zero, List.set_cons_succ, Array.getD_eq_getD_getElem?, List.getElem?_toArray, List.getElem?_cons_zero, List.getElem?_cons_succ, Option.getD_some]
    refine wpL_take hOps hS rfl (fun _ _ _ h => h) (yl_move rfl _ rfl) ?_
    simp only [Act.put, Act.eval, List.setIfInBounds_toArray, List.set_cons_zero, List.set_cons_succ, Array.getD_eq_getD_getElem?, List.getElem?_toArray, List.getElem?_cons_zero, List.getElem?_cons_succ, Option.getD_some]
    refine wpL_take hOps hS (v := ?vOp25) rfl (fun _ _ _ h => h) (yl rfl ?yOp25) ?_
    case yOp25 => (intro w hw; go_simp; first | done | rfl)
    simp only [Act.put, Act.eval, List.setIfInBounds_toArray, List.set_cons_zero, List.set_cons_succ, Array.getD_eq_getD_getElem?, List.getElem?_toArray, List.getElem?_cons_zero, List.getElem?_cons_succ, Option.getD_some]
    refine wpL_take hOps hS (v := ?vOp27) rfl (fun _ _ _ h => h) (yl rfl ?yOp27) ?_
    case yOp27 => (intro w hw; go_simp; first | done | rfl)
    simp only [Act.put, Act.eval, List.setIfInBounds_toArray, List.set_cons_zero, List.set_cons_succ, Array.getD_eq_getD_getElem?, List.getElem?_toArray, List.getElem?_cons_zero, List.getElem?_cons_succ, Option.getD_some]
    refine wpL_next hOps rfl rfl ?_
    intro K hK
    refine wp_call _ _ _ rfl Try.func11 rfl (by kernel_rfl) ?_
    simp only [List.map_toArray, List.map_cons, List.map_nil, Act.eval, Array.getD_eq_getD_getElem?, List.getElem?_toArray, List.getElem?_cons_zero, List.getElem?_cons_succ, Option.getD_some]
    refine (same_c H FS.out (by rw [HBP.out]; exact FR.out) HL5.out).mono ?_; rintro e w' ⟨rfl, H⟩
    have hS := (H)
    refine hK _ _ hS ?_
    clear hK K
    simp only [Act.put, Act.eval, List.setIfInBounds_toArray, List.set_cons_zero, List.set_cons_succ, Array.getD_eq_getD_getElem?, List.getElem?_toArray, List.getElem?_cons_zero, List.getElem?_cons_succ, Option.getD_some]
    refine wpL_take hOps hS (v := ?vOp33) rfl (fun _ _ _ h => h) (yl rfl ?yOp33) ?_
    case yOp33 => (intro w hw; go_simp; first | done | rfl)
    simp only [Act.put, Act.eval, List.setIfInBounds_toArray, List.set_cons_zero, List.set_cons_succ, Array.getD_eq_getD_getElem?, List.getElem?_toArray, List.getElem?_cons_zero, List.getElem?_cons_succ, Option.getD_some]
    refine wpL_last hOps rfl rfl ?_
    intro K hK
    refine wp_run rfl ?_
    refine hK _ _ ?_
    clear hK K hOps hS ops
    simp only [Act.put, Act.eval, List.setIfInBounds_toArray, List.set_cons_zero, List.set_cons_succ, Array.getD_eq_getD_getElem?, List.getElem?_toArray, List.getElem?_cons_zero, List.getElem?_cons_succ, Option.getD_some]
    go_wp2
    go_ret
    exact ⟨by first | rfl | simp, H.below⟩
  · obtain ⟨hR, hN⟩ := drawR_none hz
    rw [hR, hN]
    obtain ⟨z, hz2⟩ : ∃ z, z = wrongZ ws.length xs hops last := ⟨_, rfl⟩
    rw [← hz2] at hz ⊢
    clear hz2 hR hN
    go_wp2
    go_ret
    exact ⟨by first | rfl | simp, H.below⟩
theorem routeBegins_own : ownKnob Try.prog.godebug = none := by kernel_rfl
theorem routeBegins_laid : laidOutB Try.prog = true := by kernel_rfl
set_option maxRecDepth 100000 in
theorem routeBegins_lifted (os : Os) (started : os.Started) (H : Type) (enc : TypeId × Value → H) :
    ReturnsInHanded {} Try.checked os 7 .any (Rows.routeBeginsSpec.pre6 enc Try.prog Try.f7 Rows.routeBeginsRow.domain false) (Rows.routeBeginsSpec.post enc Try.prog Try.f7 false true false false) := by
  refine returnsInHanded_of_change (C := Try.checked) routeBegins_own started (by kernel_rfl) Try.func7
    (ChangeSpec.witness6 (enc := enc) (C := Try.checked) false ⟨#[], #[.slice none 0 0, .slice none 0 0, .int .i64 0, .int .i64 0, .int .u16 0], []⟩ 8 (by kernel_rfl) (by kernel_rfl) (by kernel_rfl) (by kernel_rfl)) ?_
  intro W base args ds gs before hval0 hW hcnd _
  have hval : ∀ (j : Nat) t v, Try.f7.params[j]? = some t → args[j]? = some v → Value.okWide Try.prog W .any base t v := hval0
  have hW' := hW
  obtain ⟨p, q, hA0, hV, rfl, hfz, hnd⟩ := hW
  have hA : DataW.TrodAll enc Try.prog W 0 (fun _ => true) true Try.f7.params.toList args.toList ds p := hA0
  rw [Try.params7] at hA hval
  obtain ⟨v0, vs0, d0, ds0, p0, q0, hargs, rfl, rfl, h0, r0⟩ := trodAll_cons hA
  obtain ⟨v1, vs1, d1, ds1, p1, q1, rfl, rfl, rfl, h1, r1⟩ := trodAll_cons r0
  obtain ⟨v2, vs2, d2, ds2, p2, q2, rfl, rfl, rfl, h2, r2⟩ := trodAll_cons r1
  obtain ⟨v3, vs3, d3, ds3, p3, q3, rfl, rfl, rfl, h3, r3⟩ := trodAll_cons r2
  obtain ⟨v4, vs4, d4, ds4, p4, q4, rfl, rfl, rfl, h4, r4⟩ := trodAll_cons r3
  obtain ⟨rfl, rfl, rfl⟩ := trodAll_nil r4
  obtain rfl : args = #[v0, v1, v2, v3, v4] := by cases args; simp_all
  obtain ⟨rfl, rfl⟩ := trodVars_none hV
  have k0 := h0
  have lt0 : ∀ x ∈ p0, x.block < W.heap.size := by obtain ⟨m, hm⟩ := k0; exact DataW.trod_lt m _ _ _ hm
  have k1 := h1
  have lt1 : ∀ x ∈ p1, x.block < W.heap.size := by obtain ⟨m, hm⟩ := k1; exact DataW.trod_lt m _ _ _ hm
  have k2 := h2
  have lt2 : ∀ x ∈ p2, x.block < W.heap.size := by obtain ⟨m, hm⟩ := k2; exact DataW.trod_lt m _ _ _ hm
  have k3 := h3
  have lt3 : ∀ x ∈ p3, x.block < W.heap.size := by obtain ⟨m, hm⟩ := k3; exact DataW.trod_lt m _ _ _ hm
  have k4 := h4
  have lt4 : ∀ x ∈ p4, x.block < W.heap.size := by obtain ⟨m, hm⟩ := k4; exact DataW.trod_lt m _ _ _ hm
  obtain ⟨a0, len0, cap0, rfl⟩ := okWide_slice Try.underlying22 (hval 0 22 v0 rfl rfl)
  have f0 : IntRow .u64 W a0 len0 ∧ len0 ≤ cap0 := by
    obtain ⟨fuel, hf⟩ := h0
    rcases open_ints Try.underlying22 Try.underlying31 (by kernel_rfl) hf with ⟨hcs, _⟩ | ⟨x, l, c, zs, hcs, _, hl, hm, hz, _, hcell, hwz⟩
    · simp [Value.cells] at hcs
      obtain ⟨rfl, rfl, rfl⟩ := hcs
      exact ⟨intRow_of (cap := 0) (zs := []) (.inl ⟨rfl, rfl⟩), Nat.le_refl _⟩
    · simp [Value.cells] at hcs
      obtain ⟨rfl, rfl, rfl⟩ := hcs
      exact ⟨intRow_of (.inr ⟨_, rfl, hl, hm, by simpa using hz, hcell, hwz⟩), hl⟩
  obtain ⟨a1, len1, cap1, rfl⟩ := okWide_slice Try.underlying23 (hval 1 23 v1 rfl rfl)
  have f1 : IntRow .u16 W a1 len1 ∧ len1 ≤ cap1 := by
    obtain ⟨fuel, hf⟩ := h1
    rcases open_ints Try.underlying23 Try.underlying25 (by kernel_rfl) hf with ⟨hcs, _⟩ | ⟨x, l, c, zs, hcs, _, hl, hm, hz, _, hcell, hwz⟩
    · simp [Value.cells] at hcs
      obtain ⟨rfl, rfl, rfl⟩ := hcs
      exact ⟨intRow_of (cap := 0) (zs := []) (.inl ⟨rfl, rfl⟩), Nat.le_refl _⟩
    · simp [Value.cells] at hcs
      obtain ⟨rfl, rfl, rfl⟩ := hcs
      exact ⟨intRow_of (.inr ⟨_, rfl, hl, hm, by simpa using hz, hcell, hwz⟩), hl⟩
  obtain ⟨a2, rfl, rfl, rfl, f2⟩ := open_int Try.underlying3 (hval 2 3 v2 rfl rfl) h2
  obtain ⟨a3, rfl, rfl, rfl, f3⟩ := open_int Try.underlying3 (hval 3 3 v3 rfl rfl) h3
  obtain ⟨a4, rfl, rfl, rfl, f4⟩ := open_int Try.underlying25 (hval 4 25 v4 rfl rfl) h4
  clear hA0 hval0
  refine (routeBegins_walk a0 len0 cap0 a1 len1 cap1 a2 a3 a4 W f0 f1 f2 f3 f4).mono fun e W' ⟨he, bel⟩ => ?_
  subst he
  exact ⟨_, rfl, _, _, _, [], _, [], hW', trodAll_mk1 (shut_bool Try.underlying4 _), (trodAll_cons_mk (Below.trod routeBegins_laid (by kernel_rfl) (of_decide_eq_true (by kernel_rfl)) k0 bel lt0) (trodAll_cons_mk (Below.trod routeBegins_laid (by kernel_rfl) (of_decide_eq_true (by kernel_rfl)) k1 bel lt1) (trodAll_cons_mk (Below.trod routeBegins_laid (by kernel_rfl) (of_decide_eq_true (by kernel_rfl)) k2 bel lt2) (trodAll_cons_mk (Below.trod routeBegins_laid (by kernel_rfl) (of_decide_eq_true (by kernel_rfl)) k3 bel lt3) (trodAll_cons_mk (Below.trod routeBegins_laid (by kernel_rfl) (of_decide_eq_true (by kernel_rfl)) k4 bel lt4) trodAll_mk0))))), rfl, bel.frame _, fun h => by cases h⟩
theorem routeBegins_holds : Rows.RouteBeginsSaid :=
  OpenClaim.holds_of_wide 7 Try.f7 rfl rfl rfl rfl rfl rfl rfl ⟨rfl, rfl, rfl, rfl, rfl⟩ rfl rfl rfl rfl rfl (by kernel_rfl) Try.func7 (by kernel_rfl)
    (of_decide_eq_true (by kernel_rfl)) (by unfold Func.isWrapper; first | (rw [if_pos (by decide +kernel)]; kernel_rfl) | (rw [if_neg (by decide +kernel)]; exact ⟨rfl, rfl⟩))
    (fun os started H enc _ => routeBegins_lifted os started H enc)
#print axioms routeBegins_holds
end Go.Proofs.Ytddddlphnoicpaa
