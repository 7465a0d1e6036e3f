/-
  A route is the one that the document says, and there are as many: the law answers true for every input, and its arguments read as before.
-/
import Derived.Test.YtddddlphnoicpaaRows
import Derived.Test.YtddddlphnoicpaaRouteD
import Derived.Test.YtddddlphnoicpaaRouteR
namespace Go.Proofs.Ytddddlphnoicpaa
open Go.ChangeShapes Go.WideShapes Go.ChangeAt Go.RowKit Go.Hg
set_option linter.unusedSimpArgs false
set_option linter.unusedVariables false
theorem words_bound {len : Nat} {k : Nat} {v : Nat → Int} (h : ∀ i : Nat, i < len → 0 ≤ v i ∧ v i ≤ 18446744073709551615) (hk : k ≤ len) : ∀ x ∈ (List.range k).map v, 0 ≤ x ∧ x ≤ 18446744073709551615 := by
  intro x hx
  simp only [List.mem_map, List.mem_range] at hx
  obtain ⟨j, hj, rfl⟩ := hx
  exact h j (by omega)
set_option maxRecDepth 10000 in
set_option maxHeartbeats 2000000 in
theorem routeTells_walk (a : Option Addr) (len cap : Nat) (a2 : Option Addr) (len2 cap2 : Nat) (hops last : Int) (w : World) (h1 : IntRow .u64 w a len ∧ len ≤ cap) (h2 : IntRow .u16 w a2 len2 ∧ len2 ≤ cap2) (h3 : (Lit.int .i64 hops).wf = true) (h4 : (Lit.int .u16 last).wf = true) :
    Calls Try.prog 3 #[.slice a len cap, .slice a2 len2 cap2, .int .i64 hops, .int .u16 last] w fun e w' => e = .returned (.bool true) ∧ Below w.heap.size w w' := by
  obtain ⟨h1, hcap⟩ := h1
  obtain ⟨h2, hcap2⟩ := h2
  obtain ⟨b, off, v, hlen, hcell⟩ := intRow_fn h1
  obtain ⟨b2, off2, v2, hlen2, hcell2⟩ := intRow_fn h2
  clear h1 h2
  have H := At.start w
  obtain ⟨m, hm⟩ : ∃ m : Nat, m = min len 20 := ⟨_, rfl⟩
  obtain ⟨n, hn⟩ : ∃ n : Nat, n = min len2 40 := ⟨_, rfl⟩
  have hmin : (if (20 : Int) < (len : Int) then (20 : Int) else (len : Int)) = (m : Int) := by split <;> omega
  have hmin2 : (if (40 : Int) < (len2 : Int) then (40 : Int) else (len2 : Int)) = (n : Int) := by split <;> omega
  have hc1 : (m : Int) ≤ cap := by omega
  have hc2 : (n : Int) ≤ cap2 := by omega
  have hw := Lib.hid (fun (F : List SP) => sees_arg (F := F) (m := m) (by omega) hcap hcell)
  have hv := Lib.hid (fun (F : List SP) => sees_arg (F := F) (m := n) (by omega) hcap2 hcell2)
  have hwb := Lib.hid (words_bound (v := v) (k := m) (fun i hi => bounds_u64 (hcell i hi).2.2) (by omega))
  have hnl : n ≤ 40 := by omega
  have hxl : ((List.range n).map v2).length = n := by simp
  have hwl : ((List.range m).map v).length = m := by simp
  obtain ⟨ws, hws⟩ : ∃ ws, ws = (List.range m).map v := ⟨_, rfl⟩
  obtain ⟨xs, hxs⟩ : ∃ xs, xs = (List.range n).map v2 := ⟨_, rfl⟩
  rw [← hws] at hw hwb hwl
  rw [← hxs] at hv hxl
  clear hcell hcell2 hm hn hcap hcap2 hws hxs
  go_enter Try.func3, Try.ntmps3
  go_wp2_with fail
  refine (shown_c H).mono ?_; rintro e w' ⟨rfl, H⟩
  go_wp2_with fail
  clear hmin hmin2
  refine (draw_c H (hw.out _) (hv.out _) hwb.out (by omega) hops last).mono ?_; rintro e w' ⟨ra, rc, rfl, H⟩
  go_wp2_with fail
  refine (rdraw_c H (hw.out _) (hv.out _) hwb.out (by omega) hops last).mono ?_; rintro e w' ⟨rb, rd, rfl, H⟩
  have hRl : (drawR ws xs hops last).length ≤ 1000000 := by
    unfold drawR
    split
    · rename_i hz
      obtain ⟨b1, b2, _, b4, b5, b6, b7⟩ := wrong_ok hz
      rw [List.length_append, drawn_length (by have := others_length (rises_nodup b4) b5; rw [List.length_take]; omega)]
      rw [List.length_take]
      simp only [List.length_cons, List.length_nil]
      omega
    · simp
  have HRL := Lib.hid hRl
  clear hRl
  go_wp2_with fail
  refine (same_c H (sees_own el_a H 1 rfl) (sees_own el_a H 0 rfl) HRL.out).mono ?_; rintro e w' ⟨rfl, H⟩
  go_wp2_with fail
  refine (count_c _ _ _).mono ?_; rintro e w' ⟨rfl, rfl⟩
  go_wp2_with fail
  refine (rcount_c _ _ _).mono ?_; rintro e w' ⟨rfl, rfl⟩
  go_wp2
  go_ret
  exact ⟨by first | rfl | simp, H.below⟩
theorem routeTells_own : ownKnob Try.prog.godebug = none := by kernel_rfl
theorem routeTells_laid : laidOutB Try.prog = true := by kernel_rfl
set_option maxRecDepth 100000 in
theorem routeTells_lifted (os : Os) (started : os.Started) (H : Type) (enc : TypeId × Value → H) :
    ReturnsInHanded {} Try.checked os 3 .any (Rows.routeTellsSpec.pre6 enc Try.prog Try.f3 Rows.routeTellsRow.domain false) (Rows.routeTellsSpec.post enc Try.prog Try.f3 false true false false) := by
  refine returnsInHanded_of_change (C := Try.checked) routeTells_own started (by kernel_rfl) Try.func3
    (ChangeSpec.witness6 (enc := enc) (C := Try.checked) false ⟨#[], #[.slice none 0 0, .slice none 0 0, .int .i64 0, .int .u16 0], []⟩ 8 (by kernel_rfl) (by kernel_rfl) (by kernel_rfl) (by kernel_rfl)) ?_
  intro W base args ds gs before hval0 hW hcnd _
  have hval : ∀ (j : Nat) t v, Try.f3.params[j]? = some t → args[j]? = some v → Value.okWide Try.prog W .any base t v := hval0
  have hW' := hW
  obtain ⟨p, q, hA0, hV, rfl, hfz, hnd⟩ := hW
  have hA : DataW.TrodAll enc Try.prog W 0 (fun _ => true) true Try.f3.params.toList args.toList ds p := hA0
  rw [Try.params3] at hA hval
  obtain ⟨v0, vs0, d0, ds0, p0, q0, hargs, rfl, rfl, h0, r0⟩ := trodAll_cons hA
  obtain ⟨v1, vs1, d1, ds1, p1, q1, rfl, rfl, rfl, h1, r1⟩ := trodAll_cons r0
  obtain ⟨v2, vs2, d2, ds2, p2, q2, rfl, rfl, rfl, h2, r2⟩ := trodAll_cons r1
  obtain ⟨v3, vs3, d3, ds3, p3, q3, rfl, rfl, rfl, h3, r3⟩ := trodAll_cons r2
  obtain ⟨rfl, rfl, rfl⟩ := trodAll_nil r3
  obtain rfl : args = #[v0, v1, v2, v3] := by cases args; simp_all
  obtain ⟨rfl, rfl⟩ := trodVars_none hV
  have k0 := h0
  have lt0 : ∀ x ∈ p0, x.block < W.heap.size := by obtain ⟨m, hm⟩ := k0; exact DataW.trod_lt m _ _ _ hm
  have k1 := h1
  have lt1 : ∀ x ∈ p1, x.block < W.heap.size := by obtain ⟨m, hm⟩ := k1; exact DataW.trod_lt m _ _ _ hm
  have k2 := h2
  have lt2 : ∀ x ∈ p2, x.block < W.heap.size := by obtain ⟨m, hm⟩ := k2; exact DataW.trod_lt m _ _ _ hm
  have k3 := h3
  have lt3 : ∀ x ∈ p3, x.block < W.heap.size := by obtain ⟨m, hm⟩ := k3; exact DataW.trod_lt m _ _ _ hm
  obtain ⟨a0, len0, cap0, rfl⟩ := okWide_slice Try.underlying22 (hval 0 22 v0 rfl rfl)
  have f0 : IntRow .u64 W a0 len0 ∧ len0 ≤ cap0 := by
    obtain ⟨fuel, hf⟩ := h0
    rcases open_ints Try.underlying22 Try.underlying31 (by kernel_rfl) hf with ⟨hcs, _⟩ | ⟨x, l, c, zs, hcs, _, hl, hm, hz, _, hcell, hwz⟩
    · simp [Value.cells] at hcs
      obtain ⟨rfl, rfl, rfl⟩ := hcs
      exact ⟨intRow_of (cap := 0) (zs := []) (.inl ⟨rfl, rfl⟩), Nat.le_refl _⟩
    · simp [Value.cells] at hcs
      obtain ⟨rfl, rfl, rfl⟩ := hcs
      exact ⟨intRow_of (.inr ⟨_, rfl, hl, hm, by simpa using hz, hcell, hwz⟩), hl⟩
  obtain ⟨a1, len1, cap1, rfl⟩ := okWide_slice Try.underlying23 (hval 1 23 v1 rfl rfl)
  have f1 : IntRow .u16 W a1 len1 ∧ len1 ≤ cap1 := by
    obtain ⟨fuel, hf⟩ := h1
    rcases open_ints Try.underlying23 Try.underlying25 (by kernel_rfl) hf with ⟨hcs, _⟩ | ⟨x, l, c, zs, hcs, _, hl, hm, hz, _, hcell, hwz⟩
    · simp [Value.cells] at hcs
      obtain ⟨rfl, rfl, rfl⟩ := hcs
      exact ⟨intRow_of (cap := 0) (zs := []) (.inl ⟨rfl, rfl⟩), Nat.le_refl _⟩
    · simp [Value.cells] at hcs
      obtain ⟨rfl, rfl, rfl⟩ := hcs
      exact ⟨intRow_of (.inr ⟨_, rfl, hl, hm, by simpa using hz, hcell, hwz⟩), hl⟩
  obtain ⟨a2, rfl, rfl, rfl, f2⟩ := open_int Try.underlying3 (hval 2 3 v2 rfl rfl) h2
  obtain ⟨a3, rfl, rfl, rfl, f3⟩ := open_int Try.underlying25 (hval 3 25 v3 rfl rfl) h3
  clear hA0 hval0
  refine (routeTells_walk a0 len0 cap0 a1 len1 cap1 a2 a3 W f0 f1 f2 f3).mono fun e W' ⟨he, bel⟩ => ?_
  subst he
  exact ⟨_, rfl, _, _, _, [], _, [], hW', trodAll_mk1 (shut_bool Try.underlying4 _), (trodAll_cons_mk (Below.trod routeTells_laid (by kernel_rfl) (of_decide_eq_true (by kernel_rfl)) k0 bel lt0) (trodAll_cons_mk (Below.trod routeTells_laid (by kernel_rfl) (of_decide_eq_true (by kernel_rfl)) k1 bel lt1) (trodAll_cons_mk (Below.trod routeTells_laid (by kernel_rfl) (of_decide_eq_true (by kernel_rfl)) k2 bel lt2) (trodAll_cons_mk (Below.trod routeTells_laid (by kernel_rfl) (of_decide_eq_true (by kernel_rfl)) k3 bel lt3) trodAll_mk0)))), rfl, bel.frame _, fun h => by cases h⟩
theorem routeTells_holds : Rows.RouteTellsSaid :=
  OpenClaim.holds_of_wide 3 Try.f3 rfl rfl rfl rfl rfl rfl rfl ⟨rfl, rfl, rfl, rfl, rfl⟩ rfl rfl rfl rfl rfl (by kernel_rfl) Try.func3 (by kernel_rfl)
    (of_decide_eq_true (by kernel_rfl)) (by unfold Func.isWrapper; first | (rw [if_pos (by decide +kernel)]; kernel_rfl) | (rw [if_neg (by decide +kernel)]; exact ⟨rfl, rfl⟩))
    (fun os started H enc _ => routeTells_lifted os started H enc)
#print axioms routeTells_holds
end Go.Proofs.Ytddddlphnoicpaa
