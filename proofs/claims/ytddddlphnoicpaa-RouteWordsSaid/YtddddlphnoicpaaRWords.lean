/-
  Words behind those that are used do not matter to a route, and what is asked for may be written over: the law answers true for every input, and its arguments read as before.
-/
import Derived.Test.YtddddlphnoicpaaRows
import Derived.Test.YtddddlphnoicpaaRouteP
namespace Go.Proofs.Ytddddlphnoicpaa
open Go.ChangeShapes Go.WideShapes Go.ChangeAt Go.RowKit Go.Hg
set_option linter.unusedSimpArgs false
set_option linter.unusedVariables false
theorem wrong_words {nw nv : Nat} {xs : List Int} {hops last : Int} (h : wrongZ nw xs hops last = 0) (h1 : hops - 1 ≤ nv) : wrongZ nv xs hops last = 0 := by
  obtain ⟨b1, b2, b3, b4, b5, b6, b7⟩ := wrong_ok h
  unfold wrongZ
  rw [if_neg (by
    rintro (h | h | h | h)
    · omega
    · omega
    · omega
    · rw [b4] at h; cases h), if_neg (not_not_intro b5), if_neg (by omega), if_neg (by omega)]
def WordR (w0 : World) (W all R : List Int) (va vb vc : Value) (am : Option Addr) (cm : Nat) (ax : Option Addr) (cx : Nat) (nm nx : Nat) (w : World) : Prop :=
  ∃ M X, M.length = nm ∧ X.length = nx ∧ At w0 [lrow 25 1 (ic .u16) va W, lrow 25 1 (ic .u16) (.slice am M.length cm) M, lrow 31 1 (ic .u64) vb all, lrow 25 1 (ic .u16) vc R, lrow 25 1 (ic .u16) (.slice ax X.length cx) X] w
set_option maxRecDepth 10000 in
set_option maxHeartbeats 1000000 in
theorem routeWords_walk (a : Option Addr) (len cap : Nat) (a3 : Option Addr) (len3 cap3 : Nat) (a2 : Option Addr) (len2 cap2 : Nat) (hops last : Int) (w : World) (h1 : IntRow .u64 w a len ∧ len ≤ cap) (h6 : IntRow .u64 w a3 len3 ∧ len3 ≤ cap3) (h2 : IntRow .u16 w a2 len2 ∧ len2 ≤ cap2) (h3 : (Lit.int .i64 hops).wf = true) (h4 : (Lit.int .u16 last).wf = true) :
    Calls Try.prog 6 #[.slice a len cap, .slice a3 len3 cap3, .slice a2 len2 cap2, .int .i64 hops, .int .u16 last] w fun e w' => e = .returned (.bool true) ∧ Below w.heap.size w w' := by
  obtain ⟨h6, hcap3⟩ := h6
  obtain ⟨b3, off3, v3, hlen3, hcell3⟩ := intRow_fn h6
  obtain ⟨p, hp⟩ : ∃ p : Nat, p = min len3 20 := ⟨_, rfl⟩
  have hmin3 : (if (20 : Int) < (len3 : Int) then (20 : Int) else (len3 : Int)) = (p : Int) := by split <;> omega
  have hc3 : (p : Int) ≤ cap3 := by omega
  have hv3 := Lib.hid (fun (F : List SP) => sees_arg (w0 := w) (F := F) (m := p) (by omega) hcap3 hcell3)
  have hwb3 := Lib.hid (words_bound2 (v := v3) (k := p) (fun i hi => bounds_u64 (hcell3 i hi).2.2) (by omega))
  have hpl : p ≤ 20 := by omega
  have hzl : ((List.range p).map v3).length = p := by simp
  obtain ⟨zs, hzs⟩ : ∃ zs, zs = (List.range p).map v3 := ⟨_, rfl⟩
  rw [← hzs] at hv3 hwb3 hzl
  clear hcell3 hp hcap3 hzs h6
  obtain ⟨h1, hcap⟩ := h1
  obtain ⟨h2, hcap2⟩ := h2
  obtain ⟨b, off, v, hlen, hcell⟩ := intRow_fn h1
  obtain ⟨b2, off2, v2, hlen2, hcell2⟩ := intRow_fn h2
  clear h1 h2
  have H := At.start w
  obtain ⟨m, hm⟩ : ∃ m : Nat, m = min len 20 := ⟨_, rfl⟩
  obtain ⟨n, hn⟩ : ∃ n : Nat, n = min len2 40 := ⟨_, rfl⟩
  have hmin : (if (20 : Int) < (len : Int) then (20 : Int) else (len : Int)) = (m : Int) := by split <;> omega
  have hmin2 : (if (40 : Int) < (len2 : Int) then (40 : Int) else (len2 : Int)) = (n : Int) := by split <;> omega
  have hc1 : (m : Int) ≤ cap := by omega
  have hc2 : (n : Int) ≤ cap2 := by omega
  have hw := Lib.hid (fun (F : List SP) => sees_arg (F := F) (m := m) (by omega) hcap hcell)
  have hv := Lib.hid (fun (F : List SP) => sees_arg (F := F) (m := n) (by omega) hcap2 hcell2)
  have hwb := Lib.hid (words_bound2 (v := v) (k := m) (fun i hi => bounds_u64 (hcell i hi).2.2) (by omega))
  have hnl : n ≤ 40 := by omega
  have hml : m ≤ 20 := by omega
  have hxl : ((List.range n).map v2).length = n := by simp
  have hwl : ((List.range m).map v).length = m := by simp
  obtain ⟨ws, hws⟩ : ∃ ws, ws = (List.range m).map v := ⟨_, rfl⟩
  obtain ⟨xs, hxs⟩ : ∃ xs, xs = (List.range n).map v2 := ⟨_, rfl⟩
  rw [← hws] at hw hwb hwl
  rw [← hxs] at hv hxl
  clear hcell hcell2 hm hn hcap hcap2 hws hxs
  have HXL := Lib.hid hxl
  have HWL := Lib.hid hwl
  have HZL := Lib.hid hzl
  have hx40 : xs.length ≤ 40 := by omega
  have hw20 : ws.length ≤ 20 := by omega
  have hz20 : zs.length ≤ 20 := by omega
  clear hxl hwl hzl
  go_enter Try.func6, Try.ntmps6
  go_wp2_with fail
  refine (shown_c H).mono ?_; rintro e w' ⟨rfl, H⟩
  go_wp2_with ((with_reducible refine wpList_op rfl ?_); intro _ hK; first | (refine wp_lnew el_a _ under_Addrs rfl H (fun B w' H => hK _ _ ?_)) | (refine wp_lapp el_a (xs := []) (ys := xs) _ _ under_Addrs (.inl ⟨_, under_Addrs⟩) _ _ rfl rfl H rfl (sees_src H (hv.out _)) (by simp [maxLen]; omega) (by simp; omega) (fun b1 c1 w' H => hK _ _ ?_)))
  clear hmin hmin2
  replace H : At w [lrow 25 1 (ic .u16) (.slice b1 xs.length c1) xs] w' := H
  refine (draw_c H (hw.out _) (sees_own el_a H 0 rfl) hwb.out (by omega) hops last).mono ?_; rintro e w' ⟨ra, rc, rfl, H⟩
  by_cases hz : wrongZ ws.length xs hops last = 0
  · obtain ⟨r1, _, _, _⟩ := drawR_ok hz
    have hN := drawN_ok hz
    obtain ⟨d1, d2, d3, d4, d5, d6, d7⟩ := wrong_ok hz
    obtain ⟨q, rfl⟩ : ∃ q : Nat, hops = (q : Int) + 1 := ⟨(hops - 1).toNat, by omega⟩
    have hxl := HXL.out
    have hwl := HWL.out
    have hzl := HZL.out
    obtain ⟨all, hall⟩ : ∃ all, all = ws.take q ++ zs := ⟨_, rfl⟩
    have hal : all.length = q + p := by rw [hall, List.length_append, List.length_take]; omega
    have hz2 := wrong_words (nv := all.length) hz (by omega)
    have hN2 := drawN_ok hz2
    obtain ⟨s1, _, _, _⟩ := drawR_ok hz2
    have hab : ∀ x ∈ all, 0 ≤ x ∧ x ≤ 18446744073709551615 := fun x hx => by
      rw [hall] at hx
      rcases List.mem_append.1 hx with h | h
      · exact hwb.out x (List.mem_of_mem_take h)
      · exact hwb3.out x h
    obtain ⟨R, hR⟩ : ∃ R, R = drawR ws xs ((q : Int) + 1) last := ⟨_, rfl⟩
    obtain ⟨M, hM⟩ : ∃ M, M = drawR all xs ((q : Int) + 1) last := ⟨_, rfl⟩
    rw [← hR] at r1 H ⊢
    rw [← hM] at s1
    rw [hz, hN, show (q : Int) + 1 - 1 = q by omega]
    have HM := Lib.hid hM
    have HZ2 := Lib.hid hz2
    have HN2 := Lib.hid hN2
    have HAB := Lib.hid hab
    have HALL := Lib.hid hall
    have HAL := Lib.hid hal
    have R1 := Lib.hid (show R.length = q + 1 by omega)
    have S1 := Lib.hid (show M.length = q + 1 by omega)
    have d9 : xs.length ≤ 16 := by omega
    have d8 : (q : Int) ≤ 4 := by omega
    have d7' : (q : Int) ≤ m := by omega
    have e1 : (q : Int) ≤ cap := by omega
    have e2 : q ≤ cap := by omega
    have e3 : p ≤ cap3 := by omega
    have hq3 : q ≤ ws.length := by omega
    have hxp : 0 < xs.length := List.length_pos_of_mem d5
    clear hR hM hz hN hz2 hN2 hab hall hal r1 s1 d1 d2 d3 d4 d5 d6 d7 hxl hzl hwl
    have tW := (hw.out [lrow 25 1 (ic .u16) (.slice ra R.length rc) R, lrow 25 1 (ic .u16) (.slice b1 xs.length c1) xs]).take
    obtain ⟨a5, c5, e5, q5, f5⟩ := tW
    cases e5
    have FW := Lib.hid (f5 q hq3)
    clear f5
    go_wp2_with fail
    refine wpL_begin 11 (At w [lrow 25 1 (ic .u16) (.slice ra R.length rc) R, lrow 25 1 (ic .u16) (.slice b1 xs.length c1) xs]) [(1, true), (2, true), (3, true), (5, true), (6, true), (7, true), (8, true), (9, true), (0, false), (4, false), (10, false), (11, false)] rfl (by kernel_rfl) (by kernel_rfl) ((H.drew)) ?_
    intro ops hOps hS
    replace H := H.drew
    refine wpL_take hOps hS rfl (fun _ _ _ h => h) (yl_move rfl _ rfl) ?_
    simp only [Act.put, Act.eval, List.setIfInBounds_toArray, List.set_cons_zero, List.set_cons_succ, Array.getD_eq_getD_getElem?, List.getElem?_toArray, List.getElem?_cons_zero, List.getElem?_cons_succ, Option.getD_some]
    refine wpL_take hOps hS rfl (fun _ _ _ h => h) (yl_move rfl _ rfl) ?_
    simp only [Act.put, Act.eval, List.setIfInBounds_toArray, List.set_cons_zero, List.set_cons_succ, Array.getD_eq_getD_getElem?, List.getElem?_toArray, List.getElem?_cons_zero, List.getElem?_cons_succ, Option.getD_some]
    refine wpL_take hOps hS (v := ?vOp9) rfl (fun _ _ _ h => h) (yl rfl ?yOp9) ?_
    case yOp9 => (intro w hw; go_simp; first | done | rfl)
    simp only [Act.put, Act.eval, List.setIfInBounds_toArray, List.set_cons_zero, List.set_cons_succ, Array.getD_eq_getD_getElem?, List.getElem?_toArray, List.getElem?_cons_zero, List.getElem?_cons_succ, Option.getD_some]
    refine wpL_take hOps hS rfl (fun _ _ _ h => h) (yl_move rfl _ rfl) ?_
    simp only [Act.put, Act.eval, List.setIfInBounds_toArray, List.set_cons_zero, List.set_cons_succ, Array.getD_eq_getD_getElem?, List.getElem?_toArray, List.getElem?_cons_zero, List.getElem?_cons_succ, Option.getD_some]
    refine wpL_take hOps hS rfl (fun _ _ _ h => h) (yl_move rfl _ rfl) ?_
    simp only [Act.put, Act.eval, List.setIfInBounds_toArray, List.set_cons_zero, List.set_cons_succ, Array.getD_eq_getD_getElem?, List.getElem?_toArray, List.getElem?_cons_zero, List.getElem?_cons_succ, Option.getD_some]
    refine wpL_take hOps hS (v := ?vOp17) rfl (fun _ _ _ h => h) (yl rfl ?yOp17) ?_
    case yOp17 => (intro w hw; go_simp; first | done | rfl)
    simp only [Act.put, Act.eval, List.setIfInBounds_toArray, List.set_cons_zero, List.set_cons_succ, Array.getD_eq_getD_getElem?, List.getElem?_toArray, List.getElem?_cons_zero, List.getElem?_cons_succ, Option.getD_some]
    refine wpL_take hOps hS (v := ?vOp19) rfl (fun _ _ _ h => h) (yl rfl ?yOp19) ?_
    case yOp19 => (intro w hw; go_simp; first | done | rfl)
    simp only [Act.put, Act.eval, List.setIfInBounds_toArray, List.set_cons_zero, List.set_cons_succ, Array.getD_eq_getD_getElem?, List.getElem?_toArray, List.getElem?_cons_zero, List.getElem?_cons_succ, Option.getD_some]
    refine wpL_take hOps hS (v := ?vOp21) rfl (fun _ _ _ h => h) (yl rfl ?yOp21) ?_
    case yOp21 => (intro w hw; go_simp; first | done | rfl)
    simp only [Act.put, Act.eval, List.setIfInBounds_toArray, List.set_cons_zero, List.set_cons_succ, Array.getD_eq_getD_getElem?, List.getElem?_toArray, List.getElem?_cons_zero, List.getElem?_cons_succ, Option.getD_some]
    refine wpL_next hOps rfl rfl ?_
    intro K hK
    refine wp_lnew el_w _ under_words rfl H (fun B w' H => ?_)
    have hS := (H.tail)
    refine hK _ _ hS ?_
    clear hK K
    simp only [Act.put, Act.eval, List.setIfInBounds_toArray, List.set_cons_zero, List.set_cons_succ, Array.getD_eq_getD_getElem?, List.getElem?_toArray, List.getElem?_cons_zero, List.getElem?_cons_succ, Option.getD_some]
    refine wpL_next hOps rfl rfl ?_
    intro K hK
    refine wp_lapp el_w (xs := []) (ys := ws.take q) _ _ under_words (.inl ⟨_, under_words⟩) _ _ rfl rfl H rfl (sees_src H (FW.out.more _)) (by simp [maxLen]; omega) (by simp; omega) (fun b5 c5 w' H => ?_)
    have hS := (H.tail)
    refine hK _ _ hS ?_
    clear hK K
    simp only [Act.put, Act.eval, List.setIfInBounds_toArray, List.set_cons_zero, List.set_cons_succ, Array.getD_eq_getD_getElem?, List.getElem?_toArray, List.getElem?_cons_zero, List.getElem?_cons_succ, Option.getD_some]
    refine wpL_next hOps rfl rfl ?_
    intro K hK
    refine wp_lapp el_w (xs := [] ++ ws.take q) (ys := zs) _ _ under_words (.inl ⟨_, under_words⟩) _ _ rfl rfl H rfl (sees_src H (hv3.out _)) (by simp [maxLen]; omega) (by simp; omega) (fun b6 c6 w' H => ?_)
    have hS := (H.tail)
    refine hK _ _ hS ?_
    clear hK K
    simp only [Act.put, Act.eval, List.setIfInBounds_toArray, List.set_cons_zero, List.set_cons_succ, Array.getD_eq_getD_getElem?, List.getElem?_toArray, List.getElem?_cons_zero, List.getElem?_cons_succ, Option.getD_some]
    refine wpL_last hOps rfl rfl ?_
    intro K hK
    refine wp_run rfl ?_
    refine hK _ _ ?_
    clear hK K hOps hS ops
    simp only [Act.put, Act.eval, List.setIfInBounds_toArray, List.set_cons_zero, List.set_cons_succ, Array.getD_eq_getD_getElem?, List.getElem?_toArray, List.getElem?_cons_zero, List.getElem?_cons_succ, Option.getD_some]
    have hall2 : ([] ++ ws.take q ++ zs) = all := by rw [HALL.out]; rfl
    rw [hall2] at H ⊢
    clear hall2
    have r5 : R.length ≤ 5 := by have := R1.out; omega
    have m5 : M.length ≤ 5 := by have := S1.out; omega
    have m0 : 0 < M.length := by have := S1.out; omega
    go_wp2_with fail
    refine (draw_c H (sees_own el_w H 0 rfl) (sees_own el_a H 2 rfl) HAB.out (by omega) ((q : Int) + 1) last).mono ?_; rintro e w' ⟨rm, rn, rfl, H⟩
    rw [← HM.out] at H
    rw [← HM.out, HZ2.out, HN2.out]
    obtain ⟨gm, om, rfl⟩ := lrow_place H 0 rfl m0
    obtain ⟨gx, ox, rfl⟩ := lrow_place H 3 rfl hxp
    go_wp2_with ((with_reducible refine wpList_op rfl ?_); intro _ hK; first | (refine wp_lnew el_a _ under_Addrs rfl H (fun B w' H => hK _ _ ?_)) | (refine wp_lapp_all el_a (xs := []) (ys := R) _ under_Addrs _ _ rfl rfl H rfl 2 rfl (by simp [maxLen]; omega) (by simp; omega) (fun b7 c7 w' H => hK _ _ ?_)))
    have H' : WordR w R all R (.slice b7 R.length c7) (.slice b6 all.length c6) (.slice ra R.length rc) (some ⟨gm, om, none⟩) rn (some ⟨gx, ox, none⟩) c1 M.length xs.length w' := ⟨M, xs, rfl, rfl, H⟩
    clear H
    go_loopw [20] (fun i wr => ∃ j : Nat, j ≤ M.length ∧ i = .int .i64 j ∧ WordR w R all R (.slice b7 R.length c7) (.slice b6 all.length c6) (.slice ra R.length rc) (some ⟨gm, om, none⟩) rn (some ⟨gx, ox, none⟩) c1 M.length xs.length wr) (fun i _ => M.length - (intOf i).toNat)
    case atStart => exact ⟨0, by omega, rfl, H'⟩
    case round =>
      clear H'
      obtain ⟨j, hj, rfl, M', X', hm1, hx1, H⟩ := hrel
      have HM1 := Lib.hid hm1
      have HX1 := Lib.hid hx1
      clear hm1 hx1
      by_cases hlt : (j : Int) < M.length
      · have hjm : j < M'.length := by have := HM1.out; omega
        go_wp2_with ((with_reducible refine wpList_op rfl ?_); intro _ hK; refine wp_lstore el_a (i := j) (z := 0) _ _ rfl (by simp; rfl) rfl rfl (H.pull 1 rfl) hjm (fun w' H => hK _ _ ?_))
        first
          | (refine ⟨?_, ?measure⟩; iterate 60 (try apply Exists.intro); refine ⟨?rel, rfl⟩)
          | refine ⟨?rel, ?measure⟩
        case rel => exact ⟨j + 1, by omega, by go_num, M'.set j 0, X', by rw [List.length_set]; exact HM1.out, HX1.out, H.pull 1 rfl⟩
        case measure => simp [intOf]; omega
      · have H' : WordR w R all R (.slice b7 R.length c7) (.slice b6 all.length c6) (.slice ra R.length rc) (some ⟨gm, om, none⟩) rn (some ⟨gx, ox, none⟩) c1 M.length xs.length wr := ⟨M', X', HM1.out, HX1.out, H⟩
        clear H HM1 HX1
        go_wp2_with fail
        go_loopw [21] (fun i wr => ∃ j : Nat, j ≤ xs.length ∧ i = .int .i64 j ∧ WordR w R all R (.slice b7 R.length c7) (.slice b6 all.length c6) (.slice ra R.length rc) (some ⟨gm, om, none⟩) rn (some ⟨gx, ox, none⟩) c1 M.length xs.length wr) (fun i _ => xs.length - (intOf i).toNat)
        case atStart => exact ⟨0, by omega, rfl, H'⟩
        case round =>
          clear H' hlt hj
          obtain ⟨j, hj, rfl, M', X', hm1, hx1, H⟩ := hrel
          have HM1 := Lib.hid hm1
          have HX1 := Lib.hid hx1
          clear hm1 hx1
          by_cases hlt : (j : Int) < xs.length
          · have hjm : j < X'.length := by have := HX1.out; omega
            go_wp2_with ((with_reducible refine wpList_op rfl ?_); intro _ hK; refine wp_lstore el_a (i := j) (z := 9) _ _ rfl (by simp; rfl) rfl rfl (H.pull 4 rfl) hjm (fun w' H => hK _ _ ?_))
            first
              | (refine ⟨?_, ?measure⟩; iterate 60 (try apply Exists.intro); refine ⟨?rel, rfl⟩)
              | refine ⟨?rel, ?measure⟩
            case rel => exact ⟨j + 1, by omega, by go_num, M', X'.set j 9, HM1.out, by rw [List.length_set]; exact HX1.out, (((((((H).pull 4 rfl).pull 4 rfl).pull 4 rfl).pull 4 rfl).mask [true, true, true, true, true]))⟩
            case measure => simp [intOf]; omega
          · have hlr : (M.length : Int) = R.length := by have := S1.out; have := R1.out; omega
            have hsame := same_c H (sees_own el_a H 3 rfl) (sees_own el_a H 0 rfl) (by omega)
            go_wp2_with fail
            refine hsame.mono ?_; rintro e w' ⟨rfl, H⟩
            go_wp2
            go_ret
            exact ⟨by first | rfl | simp, H.below⟩
  · obtain ⟨hR, hN⟩ := drawR_none hz
    rw [hR, hN]
    obtain ⟨z, hz2⟩ : ∃ z, z = wrongZ ws.length xs hops last := ⟨_, rfl⟩
    rw [← hz2] at hz ⊢
    clear hz2 hR hN
    go_wp2
    go_ret
    exact ⟨by first | rfl | simp, H.below⟩
theorem routeWords_own : ownKnob Try.prog.godebug = none := by kernel_rfl
theorem routeWords_laid : laidOutB Try.prog = true := by kernel_rfl
set_option maxRecDepth 100000 in
theorem routeWords_lifted (os : Os) (started : os.Started) (H : Type) (enc : TypeId × Value → H) :
    ReturnsInHanded {} Try.checked os 6 .any (Rows.routeWordsSpec.pre6 enc Try.prog Try.f6 Rows.routeWordsRow.domain false) (Rows.routeWordsSpec.post enc Try.prog Try.f6 false true false false) := by
  refine returnsInHanded_of_change (C := Try.checked) routeWords_own started (by kernel_rfl) Try.func6
    (ChangeSpec.witness6 (enc := enc) (C := Try.checked) false ⟨#[], #[.slice none 0 0, .slice none 0 0, .slice none 0 0, .int .i64 0, .int .u16 0], []⟩ 8 (by kernel_rfl) (by kernel_rfl) (by kernel_rfl) (by kernel_rfl)) ?_
  intro W base args ds gs before hval0 hW hcnd _
  have hval : ∀ (j : Nat) t v, Try.f6.params[j]? = some t → args[j]? = some v → Value.okWide Try.prog W .any base t v := hval0
  have hW' := hW
  obtain ⟨p, q, hA0, hV, rfl, hfz, hnd⟩ := hW
  have hA : DataW.TrodAll enc Try.prog W 0 (fun _ => true) true Try.f6.params.toList args.toList ds p := hA0
  rw [Try.params6] at hA hval
  obtain ⟨v0, vs0, d0, ds0, p0, q0, hargs, rfl, rfl, h0, r0⟩ := trodAll_cons hA
  obtain ⟨v1, vs1, d1, ds1, p1, q1, rfl, rfl, rfl, h1, r1⟩ := trodAll_cons r0
  obtain ⟨v2, vs2, d2, ds2, p2, q2, rfl, rfl, rfl, h2, r2⟩ := trodAll_cons r1
  obtain ⟨v3, vs3, d3, ds3, p3, q3, rfl, rfl, rfl, h3, r3⟩ := trodAll_cons r2
  obtain ⟨v4, vs4, d4, ds4, p4, q4, rfl, rfl, rfl, h4, r4⟩ := trodAll_cons r3
  obtain ⟨rfl, rfl, rfl⟩ := trodAll_nil r4
  obtain rfl : args = #[v0, v1, v2, v3, v4] := by cases args; simp_all
  obtain ⟨rfl, rfl⟩ := trodVars_none hV
  have k0 := h0
  have lt0 : ∀ x ∈ p0, x.block < W.heap.size := by obtain ⟨m, hm⟩ := k0; exact DataW.trod_lt m _ _ _ hm
  have k1 := h1
  have lt1 : ∀ x ∈ p1, x.block < W.heap.size := by obtain ⟨m, hm⟩ := k1; exact DataW.trod_lt m _ _ _ hm
  have k2 := h2
  have lt2 : ∀ x ∈ p2, x.block < W.heap.size := by obtain ⟨m, hm⟩ := k2; exact DataW.trod_lt m _ _ _ hm
  have k3 := h3
  have lt3 : ∀ x ∈ p3, x.block < W.heap.size := by obtain ⟨m, hm⟩ := k3; exact DataW.trod_lt m _ _ _ hm
  have k4 := h4
  have lt4 : ∀ x ∈ p4, x.block < W.heap.size := by obtain ⟨m, hm⟩ := k4; exact DataW.trod_lt m _ _ _ hm
  obtain ⟨a0, len0, cap0, rfl⟩ := okWide_slice Try.underlying22 (hval 0 22 v0 rfl rfl)
  have f0 : IntRow .u64 W a0 len0 ∧ len0 ≤ cap0 := by
    obtain ⟨fuel, hf⟩ := h0
    rcases open_ints Try.underlying22 Try.underlying31 (by kernel_rfl) hf with ⟨hcs, _⟩ | ⟨x, l, c, zs, hcs, _, hl, hm, hz, _, hcell, hwz⟩
    · simp [Value.cells] at hcs
      obtain ⟨rfl, rfl, rfl⟩ := hcs
      exact ⟨intRow_of (cap := 0) (zs := []) (.inl ⟨rfl, rfl⟩), Nat.le_refl _⟩
    · simp [Value.cells] at hcs
      obtain ⟨rfl, rfl, rfl⟩ := hcs
      exact ⟨intRow_of (.inr ⟨_, rfl, hl, hm, by simpa using hz, hcell, hwz⟩), hl⟩
  obtain ⟨a1, len1, cap1, rfl⟩ := okWide_slice Try.underlying22 (hval 1 22 v1 rfl rfl)
  have f1 : IntRow .u64 W a1 len1 ∧ len1 ≤ cap1 := by
    obtain ⟨fuel, hf⟩ := h1
    rcases open_ints Try.underlying22 Try.underlying31 (by kernel_rfl) hf with ⟨hcs, _⟩ | ⟨x, l, c, zs, hcs, _, hl, hm, hz, _, hcell, hwz⟩
    · simp [Value.cells] at hcs
      obtain ⟨rfl, rfl, rfl⟩ := hcs
      exact ⟨intRow_of (cap := 0) (zs := []) (.inl ⟨rfl, rfl⟩), Nat.le_refl _⟩
    · simp [Value.cells] at hcs
      obtain ⟨rfl, rfl, rfl⟩ := hcs
      exact ⟨intRow_of (.inr ⟨_, rfl, hl, hm, by simpa using hz, hcell, hwz⟩), hl⟩
  obtain ⟨a2, len2, cap2, rfl⟩ := okWide_slice Try.underlying23 (hval 2 23 v2 rfl rfl)
  have f2 : IntRow .u16 W a2 len2 ∧ len2 ≤ cap2 := by
    obtain ⟨fuel, hf⟩ := h2
    rcases open_ints Try.underlying23 Try.underlying25 (by kernel_rfl) hf with ⟨hcs, _⟩ | ⟨x, l, c, zs, hcs, _, hl, hm, hz, _, hcell, hwz⟩
    · simp [Value.cells] at hcs
      obtain ⟨rfl, rfl, rfl⟩ := hcs
      exact ⟨intRow_of (cap := 0) (zs := []) (.inl ⟨rfl, rfl⟩), Nat.le_refl _⟩
    · simp [Value.cells] at hcs
      obtain ⟨rfl, rfl, rfl⟩ := hcs
      exact ⟨intRow_of (.inr ⟨_, rfl, hl, hm, by simpa using hz, hcell, hwz⟩), hl⟩
  obtain ⟨a3, rfl, rfl, rfl, f3⟩ := open_int Try.underlying3 (hval 3 3 v3 rfl rfl) h3
  obtain ⟨a4, rfl, rfl, rfl, f4⟩ := open_int Try.underlying25 (hval 4 25 v4 rfl rfl) h4
  clear hA0 hval0
  refine (routeWords_walk a0 len0 cap0 a1 len1 cap1 a2 len2 cap2 a3 a4 W f0 f1 f2 f3 f4).mono fun e W' ⟨he, bel⟩ => ?_
  subst he
  exact ⟨_, rfl, _, _, _, [], _, [], hW', trodAll_mk1 (shut_bool Try.underlying4 _), (trodAll_cons_mk (Below.trod routeWords_laid (by kernel_rfl) (of_decide_eq_true (by kernel_rfl)) k0 bel lt0) (trodAll_cons_mk (Below.trod routeWords_laid (by kernel_rfl) (of_decide_eq_true (by kernel_rfl)) k1 bel lt1) (trodAll_cons_mk (Below.trod routeWords_laid (by kernel_rfl) (of_decide_eq_true (by kernel_rfl)) k2 bel lt2) (trodAll_cons_mk (Below.trod routeWords_laid (by kernel_rfl) (of_decide_eq_true (by kernel_rfl)) k3 bel lt3) (trodAll_cons_mk (Below.trod routeWords_laid (by kernel_rfl) (of_decide_eq_true (by kernel_rfl)) k4 bel lt4) trodAll_mk0))))), rfl, bel.frame _, fun h => by cases h⟩
theorem routeWords_holds : Rows.RouteWordsSaid :=
  OpenClaim.holds_of_wide 6 Try.f6 rfl rfl rfl rfl rfl rfl rfl ⟨rfl, rfl, rfl, rfl, rfl⟩ rfl rfl rfl rfl rfl (by kernel_rfl) Try.func6 (by kernel_rfl)
    (of_decide_eq_true (by kernel_rfl)) (by unfold Func.isWrapper; first | (rw [if_pos (by decide +kernel)]; kernel_rfl) | (rw [if_neg (by decide +kernel)]; exact ⟨rfl, rfl⟩))
    (fun os started H enc _ => routeWords_lifted os started H enc)
#print axioms routeWords_holds
end Go.Proofs.Ytddddlphnoicpaa
