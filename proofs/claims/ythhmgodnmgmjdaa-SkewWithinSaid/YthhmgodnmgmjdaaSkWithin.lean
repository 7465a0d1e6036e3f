/-
  Who is never more than so far ahead, or behind, is told to be no farther: the law answers true for every input, and its arguments read as before.
-/
import Derived.Test.YthhmgodnmgmjdaaSkFacts
import Derived.Test.YthhmgodnmgmjdaaNumU
namespace Go.Proofs.Ythhmgodnmgmjdaa
open Go.ChangeShapes Go.WideShapes Go.ChangeAt Go.RowKit Go.Hg Go.Shelf
set_option linter.unusedSimpArgs false
set_option linter.unusedVariables false
theorem low62v (z : Int) : ∃ x : Int, bits .and .u64 z 4611686018427387903 = x ∧ 0 ≤ x ∧ x ≤ 4611686018427387903 := by
  refine ⟨_, bits_and_low_u z 62 (by omega), ?_, ?_⟩
  · exact Int.emod_nonneg _ (by decide)
  · have := Int.emod_lt_of_pos z (show (0 : Int) < 2 ^ 62 by decide)
    omega
theorem tmod_within (x m : Int) (h : 0 < m) : ∃ y, x.tmod m = y ∧ -m < y ∧ y < m := by
  refine ⟨_, rfl, ?_⟩
  have h1 := Int.tmod_lt_of_pos x h
  have h2 := Int.tmod_lt_of_pos (-x) h
  rw [Int.neg_tmod] at h2
  omega
set_option maxRecDepth 10000 in
set_option maxHeartbeats 1000000 in
theorem skewWithin_walk (a : Option Addr) (len_ cap : Nat) (a2 : Option Addr) (len2 cap2 : Nat) (m : Int) (w : World) (h1 : IntRow .u64 w a len_) (h2 : IntRow .i64 w a2 len2) (h3 : (Lit.int .u32 m).wf = true) :
    Calls Try.prog 4 #[.slice a len_ cap, .slice a2 len2 cap2, .int .u32 m] w fun e w' => e = .returned (.bool true) ∧ Below w.heap.size w w' := by
  obtain ⟨hlen, b, off, hrow⟩ := h1
  obtain ⟨hlen2, b2, off2, hrow2⟩ := h2
  have hm := bounds_u32 h3
  have hm0 : 0 ≤ m := hm.1
  have hm1 : m ≤ 4294967295 := by omega
  have w1 : IntKind.i64.wrap m = m := by rw [IntKind.wrap_i64]; omega
  have w2 : IntKind.i64.wrap (m + 1) = m + 1 := by rw [IntKind.wrap_i64]; omega
  have w3 : IntKind.i64.wrap (-m) = -m := by rw [IntKind.wrap_i64]; omega
  have w4 : ¬ m + 1 = 0 := by omega
  clear h3 hm
  have H := At.start w
  go_enter Try.func4, Try.ntmps4
  go_wp2_with fail
  refine (shown_c H).mono ?_; rintro e w' ⟨rfl, H⟩
  go_wp2_with ((with_reducible refine wpList_op rfl ?_); intro _ hK; refine wp_box_sl (v := .agg (skC (List.replicate 16 0) 0)) 27 _ rfl rfl H (fun p w' (H : At w [raw p (skC (List.replicate 16 0) 0) 27] w') _ => hK _ _ ?_))
  have H : At w [skw p []] w' := skw_new H
  go_loopw [10] (fun i wr => ∃ (j : Nat) (D : List Int), j ≤ 60 ∧ D.length ≤ j ∧ i = .int .i64 j ∧ (∀ x ∈ D, -m ≤ x ∧ x ≤ m) ∧ At w [skw p D] wr) (fun i _ => 60 - (intOf i).toNat)
  case atStart => exact ⟨0, [], by omega, by simp, rfl, by simp, H⟩
  case round =>
    clear H
    obtain ⟨j, D, hj, hD, rfl, hx0, H⟩ := hrel
    have HX := Lib.hid hx0
    clear hx0
    by_cases g1 : (j : Int) < len_
    · by_cases g2 : (j : Int) < len2
      · by_cases g3 : (j : Int) < 60
        · obtain ⟨rfl, x, hx, _⟩ := hrow j (by omega)
          obtain ⟨rfl, y, hy, _⟩ := hrow2 j (by omega)
          have hcx : wr.cell? ⟨b, off + j, none⟩ = some (.int .u64 x) := (H.below.cell (World.block_lt_of_cell? w _ hx)).trans hx
          have hcy : wr.cell? ⟨b2, off2 + j, none⟩ = some (.int .i64 y) := (H.below.cell (World.block_lt_of_cell? w _ hy)).trans hy
          obtain ⟨u, hu, u0, u1⟩ := low62v x
          obtain ⟨d, hd, d0, d1⟩ := tmod_within y (m + 1) (by omega)
          obtain ⟨t, ht⟩ : ∃ t, t = u + 1099511627776 := ⟨_, rfl⟩
          have e1 : IntKind.u64.wrap (u + 1099511627776) = t := by rw [IntKind.wrap_u64]; omega
          have e2 : IntKind.i64.wrap t = t := by rw [IntKind.wrap_i64]; omega
          have e3 : IntKind.i64.wrap (t + d) = t + d := by rw [IntKind.wrap_i64]; omega
          have e4 : IntKind.u64.wrap (t + d) = t + d := by rw [IntKind.wrap_u64]; omega
          have e7 : IntKind.i64.wrap d = d := by rw [IntKind.wrap_i64]; omega
          have ya := fun (wr : World) (F : List SP) (H : At w (skw p D :: F) wr) => yes_c H (l := t) (r := t + d) (d := d) (by omega) (by omega) (by omega) (by omega) (by omega) (by omega) (by omega) (by omega)
          obtain ⟨f1, f2, f3, f4, f5, f6, f7⟩ := within HX.out (d := d) (by omega)
          have HX2 := Lib.hid (show ∀ x ∈ D ++ [d], -m ≤ x ∧ x ≤ m from fun x hx => by
            rw [List.mem_append, List.mem_singleton] at hx
            rcases hx with h | rfl
            · exact HX.out x h
            · omega)
          have hD2 : (D ++ [d]).length ≤ j + 1 := by simp; omega
          have HD2 := Lib.hid hD2
          generalize D ++ [d] = E at ya HD2 HX2 f1 f2 f3 f4 f5 f6 f7
          have n1 : ¬ lo E < -m := by omega
          have n2 : ¬ m < hi E := by omega
          have n3 : ¬ mid E < lo E := by omega
          have n4 : ¬ hi E < mid E := by omega
          have n5 : ¬ d < lo E := by omega
          have n6 : ¬ hi E < d := by omega
          clear hx hy ht hrow hrow2 HX hD2 hD f1 f2 f3 f4 f5 f6
          go_wp2_with fail
          refine (ya _ _ H).mono ?_; rintro e w' ⟨rfl, H⟩
          go_wp2_with fail
          refine (bd_c H).mono ?_; rintro e w' ⟨rfl, H⟩
          rw [f7]
          go_wp2_with fail
          refine (md_c H).mono ?_; rintro e w' ⟨rfl, H⟩
          rw [f7]
          go_wp2_with fail
          first
            | (refine ⟨?_, ?measure⟩; iterate 60 (try apply Exists.intro); refine ⟨?rel, rfl⟩)
            | refine ⟨?rel, ?measure⟩
          case rel => exact ⟨j + 1, E, by omega, HD2.out, by go_num, HX2.out, H⟩
          case measure => simp [intOf]; omega
        · go_wp2
          go_ret
          exact ⟨rfl, H.below⟩
      · go_wp2
        go_ret
        exact ⟨rfl, H.below⟩
    · go_wp2
      go_ret
      exact ⟨rfl, H.below⟩
theorem skewWithin_own : ownKnob Try.prog.godebug = none := by kernel_rfl
theorem skewWithin_laid : laidOutB Try.prog = true := by kernel_rfl
set_option maxRecDepth 100000 in
theorem skewWithin_lifted (os : Os) (started : os.Started) (H : Type) (enc : TypeId × Value → H) :
    ReturnsInHanded {} Try.checked os 4 .any (Rows.skewWithinSpec.pre6 enc Try.prog Try.f4 Rows.skewWithinRow.domain false) (Rows.skewWithinSpec.post enc Try.prog Try.f4 false true false false) := by
  refine returnsInHanded_of_change (C := Try.checked) skewWithin_own started (by kernel_rfl) Try.func4
    (ChangeSpec.witness6 (enc := enc) (C := Try.checked) false ⟨#[], #[.slice none 0 0, .slice none 0 0, .int .u32 0], []⟩ 8 (by kernel_rfl) (by kernel_rfl) (by kernel_rfl) (by kernel_rfl)) ?_
  intro W base args ds gs before hval0 hW hcnd _
  have hval : ∀ (j : Nat) t v, Try.f4.params[j]? = some t → args[j]? = some v → Value.okWide Try.prog W .any base t v := hval0
  have hW' := hW
  obtain ⟨p, q, hA0, hV, rfl, hfz, hnd⟩ := hW
  have hA : DataW.TrodAll enc Try.prog W 0 (fun _ => true) true Try.f4.params.toList args.toList ds p := hA0
  rw [Try.params4] at hA hval
  obtain ⟨v0, vs0, d0, ds0, p0, q0, hargs, rfl, rfl, h0, r0⟩ := trodAll_cons hA
  obtain ⟨v1, vs1, d1, ds1, p1, q1, rfl, rfl, rfl, h1, r1⟩ := trodAll_cons r0
  obtain ⟨v2, vs2, d2, ds2, p2, q2, rfl, rfl, rfl, h2, r2⟩ := trodAll_cons r1
  obtain ⟨rfl, rfl, rfl⟩ := trodAll_nil r2
  obtain rfl : args = #[v0, v1, v2] := by cases args; simp_all
  obtain ⟨rfl, rfl⟩ := trodVars_none hV
  have k0 := h0
  have lt0 : ∀ x ∈ p0, x.block < W.heap.size := by obtain ⟨m, hm⟩ := k0; exact DataW.trod_lt m _ _ _ hm
  have k1 := h1
  have lt1 : ∀ x ∈ p1, x.block < W.heap.size := by obtain ⟨m, hm⟩ := k1; exact DataW.trod_lt m _ _ _ hm
  have k2 := h2
  have lt2 : ∀ x ∈ p2, x.block < W.heap.size := by obtain ⟨m, hm⟩ := k2; exact DataW.trod_lt m _ _ _ hm
  obtain ⟨a0, len0, cap0, rfl⟩ := okWide_slice Try.underlying43 (hval 0 43 v0 rfl rfl)
  have f0 : IntRow .u64 W a0 len0 := by
    obtain ⟨fuel, hf⟩ := h0
    rcases open_ints Try.underlying43 Try.underlying33 (by kernel_rfl) hf with ⟨hcs, _⟩ | ⟨x, l, c, zs, hcs, _, hl, hm, hz, _, hcell, hwz⟩
    · simp [Value.cells] at hcs
      obtain ⟨rfl, rfl, rfl⟩ := hcs
      exact intRow_of (cap := 0) (zs := []) (.inl ⟨rfl, rfl⟩)
    · simp [Value.cells] at hcs
      obtain ⟨rfl, rfl, rfl⟩ := hcs
      exact intRow_of (.inr ⟨_, rfl, hl, hm, by simpa using hz, hcell, hwz⟩)
  obtain ⟨a1, len1, cap1, rfl⟩ := okWide_slice Try.underlying29 (hval 1 29 v1 rfl rfl)
  have f1 : IntRow .i64 W a1 len1 := by
    obtain ⟨fuel, hf⟩ := h1
    rcases open_ints Try.underlying29 Try.underlying2 (by kernel_rfl) hf with ⟨hcs, _⟩ | ⟨x, l, c, zs, hcs, _, hl, hm, hz, _, hcell, hwz⟩
    · simp [Value.cells] at hcs
      obtain ⟨rfl, rfl, rfl⟩ := hcs
      exact intRow_of (cap := 0) (zs := []) (.inl ⟨rfl, rfl⟩)
    · simp [Value.cells] at hcs
      obtain ⟨rfl, rfl, rfl⟩ := hcs
      exact intRow_of (.inr ⟨_, rfl, hl, hm, by simpa using hz, hcell, hwz⟩)
  obtain ⟨a2, rfl, rfl, rfl, f2⟩ := open_int Try.underlying44 (hval 2 44 v2 rfl rfl) h2
  clear hA0 hval0
  refine (skewWithin_walk a0 len0 cap0 a1 len1 cap1 a2 W f0 f1 f2).mono fun e W' ⟨he, bel⟩ => ?_
  subst he
  exact ⟨_, rfl, _, _, _, [], _, [], hW', trodAll_mk1 (shut_bool Try.underlying4 _), (trodAll_cons_mk (Below.trod skewWithin_laid (by kernel_rfl) (of_decide_eq_true (by kernel_rfl)) k0 bel lt0) (trodAll_cons_mk (Below.trod skewWithin_laid (by kernel_rfl) (of_decide_eq_true (by kernel_rfl)) k1 bel lt1) (trodAll_cons_mk (Below.trod skewWithin_laid (by kernel_rfl) (of_decide_eq_true (by kernel_rfl)) k2 bel lt2) trodAll_mk0))), rfl, bel.frame _, fun h => by cases h⟩
theorem skewWithin_holds : Rows.SkewWithinSaid :=
  OpenClaim.holds_of_wide 4 Try.f4 rfl rfl rfl rfl rfl rfl rfl ⟨rfl, rfl, rfl, rfl, rfl⟩ rfl rfl rfl rfl rfl (by kernel_rfl) Try.func4 (by kernel_rfl)
    (of_decide_eq_true (by kernel_rfl)) (by unfold Func.isWrapper; first | (rw [if_pos (by decide +kernel)]; kernel_rfl) | (rw [if_neg (by decide +kernel)]; exact ⟨rfl, rfl⟩))
    (fun os started H enc _ => skewWithin_lifted os started H enc)
#print axioms skewWithin_holds
end Go.Proofs.Ythhmgodnmgmjdaa
