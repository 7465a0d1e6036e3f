/-
  A difference that is larger than all others is the greatest one, and turns no other bound: the law answers true for every input, and its arguments read as before.
-/
import Derived.Test.YthhmgodnmgmjdaaSkFacts
namespace Go.Proofs.Ythhmgodnmgmjdaa
open Go.ChangeShapes Go.WideShapes Go.ChangeAt Go.RowKit Go.Hg Go.Shelf
set_option linter.unusedSimpArgs false
set_option linter.unusedVariables false
theorem tmod_grows (x m : Int) (h : 0 < m) : ∃ y, x.tmod m = y ∧ -m < y ∧ y < m := by
  refine ⟨_, rfl, ?_⟩
  have h1 := Int.tmod_lt_of_pos x h
  have h2 := Int.tmod_lt_of_pos (-x) h
  rw [Int.neg_tmod] at h2
  omega
theorem grows_one {D : List Int} {d : Int} (hl : D.length ≤ 10) (h : ∀ x ∈ D, -999 ≤ x ∧ x ≤ 999) (hd : 1000 ≤ d) : hi (D ++ [d]) = d ∧ has (D ++ [d]) = true ∧ (has D = true → lo (D ++ [d]) = lo D) ∧ (has D = false → lo (D ++ [d]) = d) := by
  have hf : last (D ++ [d]) = D ++ [d] := last_few (by simp; omega)
  have hm : ∀ y, y ∈ D ++ [d] ↔ y ∈ D ∨ y = d := fun y => by rw [List.mem_append, List.mem_singleton]
  refine ⟨hi_eq (last_new D d) fun y hy => ?_, has_yes (by simp), fun hs => ?_, fun hs => ?_⟩
  · rw [hf, hm] at hy
    rcases hy with hy | rfl
    · have := h y hy
      omega
    · omega
  · have hpos := of_decide_eq_true hs
    have hlm := lo_mem hpos
    rw [last_few (by omega)] at hlm
    refine lo_eq (by rw [hf, hm]; exact .inl hlm) fun y hy => ?_
    rw [hf, hm] at hy
    rcases hy with hy | rfl
    · exact lo_le (by rw [last_few (by omega)]; exact hy)
    · have := h _ hlm
      omega
  · have hpos := of_decide_eq_false hs
    obtain rfl : D = [] := List.eq_nil_of_length_eq_zero (by omega)
    exact lo_eq (last_new [] d) fun y hy => by
      have := last_sub hy
      simp at this
      omega
theorem grows_two {D : List Int} {d : Int} (hl : D.length ≤ 10) (h : ∀ x ∈ D, -999 ≤ x ∧ x ≤ 999) (hd : 1000 ≤ d) : lo (D ++ [d] ++ [-d]) = -d ∧ hi (D ++ [d] ++ [-d]) = d ∧ has (D ++ [d] ++ [-d]) = true ∧ -d ≤ mid (D ++ [d] ++ [-d]) ∧ mid (D ++ [d] ++ [-d]) ≤ d ∧ len (D ++ [d] ++ [-d]) = D.length + 2 := by
  have hpos : 0 < (D ++ [d] ++ [-d]).length := by simp
  have hf : last (D ++ [d] ++ [-d]) = D ++ [d] ++ [-d] := last_few (by simp; omega)
  have hm : ∀ y, y ∈ D ++ [d] ++ [-d] ↔ (y ∈ D ∨ y = d) ∨ y = -d := fun y => by rw [List.mem_append, List.mem_append, List.mem_singleton, List.mem_singleton]
  have e1 : lo (D ++ [d] ++ [-d]) = -d := lo_eq (last_new (D ++ [d]) (-d)) fun y hy => by
    rw [hf, hm] at hy
    rcases hy with (hy | rfl) | rfl
    · have := h y hy
      omega
    · omega
    · omega
  have e2 : hi (D ++ [d] ++ [-d]) = d := hi_eq (by rw [hf, hm]; exact .inl (.inr rfl)) fun y hy => by
    rw [hf, hm] at hy
    rcases hy with (hy | rfl) | rfl
    · have := h y hy
      omega
    · omega
    · omega
  have m1 := lo_le (mid_mem hpos)
  have m2 := le_hi (mid_mem hpos)
  rw [e1] at m1
  rw [e2] at m2
  exact ⟨e1, e2, has_yes hpos, m1, m2, by rw [len_few (by simp; omega)]; simp⟩
set_option maxRecDepth 10000 in
set_option maxHeartbeats 1000000 in
theorem skewGrows_walk (a : Option Addr) (len_ cap : Nat) (z : Int) (w : World) (h1 : IntRow .i16 w a len_) (h2 : (Lit.int .u16 z).wf = true) :
    Calls Try.prog 10 #[.slice a len_ cap, .int .u16 z] w fun e w' => e = .returned (.bool true) ∧ Below w.heap.size w w' := by
  obtain ⟨hlen, b, off, hrow⟩ := h1
  have hz := bounds_u16 h2
  have hz0 : 0 ≤ z := hz.1
  have hz1 : z ≤ 65535 := by omega
  obtain ⟨d, hdz⟩ : ∃ d, d = 1000 + z := ⟨_, rfl⟩
  have hd : 1000 ≤ d := by omega
  have hd1 : d ≤ 66535 := by omega
  have w1 : IntKind.i64.wrap z = z := by rw [IntKind.wrap_i64]; omega
  have w2 : IntKind.i64.wrap (1000 + z) = d := by rw [IntKind.wrap_i64]; omega
  have w3 : IntKind.i64.wrap (1099511627776 + d) = 1099511627776 + d := by rw [IntKind.wrap_i64]; omega
  have w4 : IntKind.u64.wrap (1099511627776 + d) = 1099511627776 + d := by rw [IntKind.wrap_u64]; omega
  have w5 : IntKind.i64.wrap (1099511627776 - d) = 1099511627776 - d := by rw [IntKind.wrap_i64]; omega
  have w6 : IntKind.u64.wrap (1099511627776 - d) = 1099511627776 - d := by rw [IntKind.wrap_u64]; omega
  have w7 : IntKind.i64.wrap (-d) = -d := by rw [IntKind.wrap_i64]; omega
  clear h2 hz hdz
  have H := At.start w
  go_enter Try.func10, Try.ntmps10
  go_wp2_with fail
  refine (shown_c H).mono ?_; rintro e w' ⟨rfl, H⟩
  go_wp2_with ((with_reducible refine wpList_op rfl ?_); intro _ hK; refine wp_box_sl (v := .agg (skC (List.replicate 16 0) 0)) 27 _ rfl rfl H (fun p w' (H : At w [raw p (skC (List.replicate 16 0) 0) 27] w') _ => hK _ _ ?_))
  have H : At w [skw p []] w' := skw_new H
  go_loopw [7] (fun i wr => ∃ (j : Nat) (D : List Int), j ≤ 10 ∧ j ≤ len_ ∧ D.length = j ∧ i = .int .i64 j ∧ (∀ x ∈ D, -999 ≤ x ∧ x ≤ 999) ∧ At w [skw p D] wr) (fun i _ => 10 - (intOf i).toNat)
  case atStart => exact ⟨0, [], by omega, by omega, by simp, rfl, by simp, H⟩
  case round =>
    clear H
    obtain ⟨j, D, hj, hjl, hDj, rfl, hx0, H⟩ := hrel
    have HX := Lib.hid hx0
    have HDJ := Lib.hid hDj
    clear hx0
    have hD : D.length ≤ 10 := by omega
    clear hDj
    by_cases g1 : (j : Int) < len_
    · by_cases g2 : (j : Int) < 10
      · obtain ⟨rfl, x, hx, _⟩ := hrow j (by omega)
        have hcx : wr.cell? ⟨b, off + j, none⟩ = some (.int .i16 x) := (H.below.cell (World.block_lt_of_cell? w _ hx)).trans hx
        obtain ⟨y, hy, y0, y1⟩ := tmod_grows x 1000 (by omega)
        have e2 : IntKind.i64.wrap y = y := by rw [IntKind.wrap_i64]; omega
        have e3 : IntKind.i64.wrap (1099511627776 + y) = 1099511627776 + y := by rw [IntKind.wrap_i64]; omega
        have e4 : IntKind.u64.wrap (1099511627776 + y) = 1099511627776 + y := by rw [IntKind.wrap_u64]; omega
        have ya := fun (wr : World) (F : List SP) (H : At w (skw p D :: F) wr) => yes_c H (l := 1099511627776) (r := 1099511627776 + y) (d := y) (by omega) (by omega) (by omega) (by omega) (by omega) (by omega) (by omega) (by omega)
        have HX2 := Lib.hid (show ∀ x ∈ D ++ [y], -999 ≤ x ∧ x ≤ 999 from fun x hx => by
          rw [List.mem_append, List.mem_singleton] at hx
          rcases hx with h | rfl
          · exact HX.out x h
          · omega)
        have HD2 := Lib.hid (show (D ++ [y]).length = j + 1 by rw [List.length_append, HDJ.out]; rfl)
        generalize D ++ [y] = E at ya HD2 HX2
        clear hx hrow HX HDJ hD
        go_wp2_with fail
        refine (ya _ _ H).mono ?_; rintro e w' ⟨rfl, H⟩
        go_wp2_with fail
        first
          | (refine ⟨?_, ?measure⟩; iterate 60 (try apply Exists.intro); refine ⟨?rel, rfl⟩)
          | refine ⟨?rel, ?measure⟩
        case rel => exact ⟨j + 1, E, by omega, by omega, HD2.out, by go_num, HX2.out, H⟩
        case measure => simp [intOf]; omega
      · obtain rfl : j = 10 := by omega
        have hmin : (if (10 : Int) < (len_ : Int) then (10 : Int) else (len_ : Int)) = (D.length : Int) := by rw [HDJ.out]; split <;> omega
        have hmin2 : min (len_ : Int) 10 = (D.length : Int) := by rw [HDJ.out]; omega
        obtain ⟨c1, c2, c3, c4⟩ := grows_one hD HX.out hd
        obtain ⟨k1, k2, k3, k4, k5, k6⟩ := grows_two hD HX.out hd
        have ya := fun (wr : World) (F : List SP) (H : At w (skw p D :: F) wr) => yes_c H (l := 1099511627776) (r := 1099511627776 + d) (d := d) (by omega) (by omega) (by omega) (by omega) (by omega) (by omega) (by omega) (by omega)
        have yb := fun (wr : World) (F : List SP) (H : At w (skw p (D ++ [d]) :: F) wr) => yes_c H (l := 1099511627776) (r := 1099511627776 - d) (d := -d) (by simp; omega) (by omega) (by omega) (by omega) (by omega) (by omega) (by omega) (by omega)
        generalize D ++ [d] ++ [-d] = D2 at k1 k2 k3 k4 k5 k6 yb
        generalize D ++ [d] = D1 at c1 c2 c3 c4 ya yb
        have C1 := Lib.hid c1
        have C2 := Lib.hid c2
        have K1 := Lib.hid k1
        have K2 := Lib.hid k2
        have K3 := Lib.hid k3
        have K6 := Lib.hid k6
        cases hs : has D
        · have C4 := Lib.hid (c4 hs)
          have HS := Lib.hid hs
          clear c1 c2 c3 c4 k1 k2 k3 k6 hs hrow
          go_wp2_with fail
          refine (bd_c H).mono ?_; rintro e w' ⟨rfl, H⟩
          rw [HS.out]
          go_wp2_with fail
          refine (ya _ _ H).mono ?_; rintro e w' ⟨rfl, H⟩
          go_wp2_with fail
          refine (bd_c H).mono ?_; rintro e w' ⟨rfl, H⟩
          rw [C1.out, C2.out, C4.out]
          go_wp2_with fail
          refine (yb _ _ H).mono ?_; rintro e w' ⟨rfl, H⟩
          go_wp2_with fail
          refine (bd_c H).mono ?_; rintro e w' ⟨rfl, H⟩
          rw [K1.out, K2.out, K3.out]
          go_wp2_with fail
          refine (md_c H).mono ?_; rintro e w' ⟨rfl, H⟩
          rw [K3.out]
          go_wp2_with fail
          refine (ln_c H).mono ?_; rintro e w' ⟨rfl, H⟩
          rw [K6.out]
          go_wp2
          go_ret
          exact ⟨rfl, H.below⟩
        · have C4 := Lib.hid (c3 hs)
          have HS := Lib.hid hs
          clear c1 c2 c3 c4 k1 k2 k3 k6 hs hrow
          go_wp2_with fail
          refine (bd_c H).mono ?_; rintro e w' ⟨rfl, H⟩
          rw [HS.out]
          go_wp2_with fail
          refine (ya _ _ H).mono ?_; rintro e w' ⟨rfl, H⟩
          go_wp2_with fail
          refine (bd_c H).mono ?_; rintro e w' ⟨rfl, H⟩
          rw [C1.out, C2.out, C4.out]
          go_wp2_with fail
          refine (yb _ _ H).mono ?_; rintro e w' ⟨rfl, H⟩
          go_wp2_with fail
          refine (bd_c H).mono ?_; rintro e w' ⟨rfl, H⟩
          rw [K1.out, K2.out, K3.out]
          go_wp2_with fail
          refine (md_c H).mono ?_; rintro e w' ⟨rfl, H⟩
          rw [K3.out]
          go_wp2_with fail
          refine (ln_c H).mono ?_; rintro e w' ⟨rfl, H⟩
          rw [K6.out]
          go_wp2
          go_ret
          exact ⟨rfl, H.below⟩
    · have hmin : (if (10 : Int) < (len_ : Int) then (10 : Int) else (len_ : Int)) = (D.length : Int) := by rw [HDJ.out]; split <;> omega
      have hmin2 : min (len_ : Int) 10 = (D.length : Int) := by rw [HDJ.out]; omega
      obtain ⟨c1, c2, c3, c4⟩ := grows_one hD HX.out hd
      obtain ⟨k1, k2, k3, k4, k5, k6⟩ := grows_two hD HX.out hd
      have ya := fun (wr : World) (F : List SP) (H : At w (skw p D :: F) wr) => yes_c H (l := 1099511627776) (r := 1099511627776 + d) (d := d) (by omega) (by omega) (by omega) (by omega) (by omega) (by omega) (by omega) (by omega)
      have yb := fun (wr : World) (F : List SP) (H : At w (skw p (D ++ [d]) :: F) wr) => yes_c H (l := 1099511627776) (r := 1099511627776 - d) (d := -d) (by simp; omega) (by omega) (by omega) (by omega) (by omega) (by omega) (by omega) (by omega)
      generalize D ++ [d] ++ [-d] = D2 at k1 k2 k3 k4 k5 k6 yb
      generalize D ++ [d] = D1 at c1 c2 c3 c4 ya yb
      have C1 := Lib.hid c1
      have C2 := Lib.hid c2
      have K1 := Lib.hid k1
      have K2 := Lib.hid k2
      have K3 := Lib.hid k3
      have K6 := Lib.hid k6
      cases hs : has D
      · have C4 := Lib.hid (c4 hs)
        have HS := Lib.hid hs
        clear c1 c2 c3 c4 k1 k2 k3 k6 hs hrow
        go_wp2_with fail
        refine (bd_c H).mono ?_; rintro e w' ⟨rfl, H⟩
        rw [HS.out]
        go_wp2_with fail
        refine (ya _ _ H).mono ?_; rintro e w' ⟨rfl, H⟩
        go_wp2_with fail
        refine (bd_c H).mono ?_; rintro e w' ⟨rfl, H⟩
        rw [C1.out, C2.out, C4.out]
        go_wp2_with fail
        refine (yb _ _ H).mono ?_; rintro e w' ⟨rfl, H⟩
        go_wp2_with fail
        refine (bd_c H).mono ?_; rintro e w' ⟨rfl, H⟩
        rw [K1.out, K2.out, K3.out]
        go_wp2_with fail
        refine (md_c H).mono ?_; rintro e w' ⟨rfl, H⟩
        rw [K3.out]
        go_wp2_with fail
        refine (ln_c H).mono ?_; rintro e w' ⟨rfl, H⟩
        rw [K6.out]
        go_wp2
        go_ret
        exact ⟨rfl, H.below⟩
      · have C4 := Lib.hid (c3 hs)
        have HS := Lib.hid hs
        clear c1 c2 c3 c4 k1 k2 k3 k6 hs hrow
        go_wp2_with fail
        refine (bd_c H).mono ?_; rintro e w' ⟨rfl, H⟩
        rw [HS.out]
        go_wp2_with fail
        refine (ya _ _ H).mono ?_; rintro e w' ⟨rfl, H⟩
        go_wp2_with fail
        refine (bd_c H).mono ?_; rintro e w' ⟨rfl, H⟩
        rw [C1.out, C2.out, C4.out]
        go_wp2_with fail
        refine (yb _ _ H).mono ?_; rintro e w' ⟨rfl, H⟩
        go_wp2_with fail
        refine (bd_c H).mono ?_; rintro e w' ⟨rfl, H⟩
        rw [K1.out, K2.out, K3.out]
        go_wp2_with fail
        refine (md_c H).mono ?_; rintro e w' ⟨rfl, H⟩
        rw [K3.out]
        go_wp2_with fail
        refine (ln_c H).mono ?_; rintro e w' ⟨rfl, H⟩
        rw [K6.out]
        go_wp2
        go_ret
        exact ⟨rfl, H.below⟩
theorem skewGrows_own : ownKnob Try.prog.godebug = none := by kernel_rfl
theorem skewGrows_laid : laidOutB Try.prog = true := by kernel_rfl
set_option maxRecDepth 100000 in
theorem skewGrows_lifted (os : Os) (started : os.Started) (H : Type) (enc : TypeId × Value → H) :
    ReturnsInHanded {} Try.checked os 10 .any (Rows.skewGrowsSpec.pre6 enc Try.prog Try.f10 Rows.skewGrowsRow.domain false) (Rows.skewGrowsSpec.post enc Try.prog Try.f10 false true false false) := by
  refine returnsInHanded_of_change (C := Try.checked) skewGrows_own started (by kernel_rfl) Try.func10
    (ChangeSpec.witness6 (enc := enc) (C := Try.checked) false ⟨#[], #[.slice none 0 0, .int .u16 0], []⟩ 8 (by kernel_rfl) (by kernel_rfl) (by kernel_rfl) (by kernel_rfl)) ?_
  intro W base args ds gs before hval0 hW hcnd _
  have hval : ∀ (j : Nat) t v, Try.f10.params[j]? = some t → args[j]? = some v → Value.okWide Try.prog W .any base t v := hval0
  have hW' := hW
  obtain ⟨p, q, hA0, hV, rfl, hfz, hnd⟩ := hW
  have hA : DataW.TrodAll enc Try.prog W 0 (fun _ => true) true Try.f10.params.toList args.toList ds p := hA0
  rw [Try.params10] at hA hval
  obtain ⟨v0, vs0, d0, ds0, p0, q0, hargs, rfl, rfl, h0, r0⟩ := trodAll_cons hA
  obtain ⟨v1, vs1, d1, ds1, p1, q1, rfl, rfl, rfl, h1, r1⟩ := trodAll_cons r0
  obtain ⟨rfl, rfl, rfl⟩ := trodAll_nil r1
  obtain rfl : args = #[v0, v1] := by cases args; simp_all
  obtain ⟨rfl, rfl⟩ := trodVars_none hV
  have k0 := h0
  have lt0 : ∀ x ∈ p0, x.block < W.heap.size := by obtain ⟨m, hm⟩ := k0; exact DataW.trod_lt m _ _ _ hm
  have k1 := h1
  have lt1 : ∀ x ∈ p1, x.block < W.heap.size := by obtain ⟨m, hm⟩ := k1; exact DataW.trod_lt m _ _ _ hm
  obtain ⟨a0, len0, cap0, rfl⟩ := okWide_slice Try.underlying49 (hval 0 49 v0 rfl rfl)
  have f0 : IntRow .i16 W a0 len0 := by
    obtain ⟨fuel, hf⟩ := h0
    rcases open_ints Try.underlying49 Try.underlying51 (by kernel_rfl) hf with ⟨hcs, _⟩ | ⟨x, l, c, zs, hcs, _, hl, hm, hz, _, hcell, hwz⟩
    · simp [Value.cells] at hcs
      obtain ⟨rfl, rfl, rfl⟩ := hcs
      exact intRow_of (cap := 0) (zs := []) (.inl ⟨rfl, rfl⟩)
    · simp [Value.cells] at hcs
      obtain ⟨rfl, rfl, rfl⟩ := hcs
      exact intRow_of (.inr ⟨_, rfl, hl, hm, by simpa using hz, hcell, hwz⟩)
  obtain ⟨a1, rfl, rfl, rfl, f1⟩ := open_int Try.underlying50 (hval 1 50 v1 rfl rfl) h1
  clear hA0 hval0
  refine (skewGrows_walk a0 len0 cap0 a1 W f0 f1).mono fun e W' ⟨he, bel⟩ => ?_
  subst he
  exact ⟨_, rfl, _, _, _, [], _, [], hW', trodAll_mk1 (shut_bool Try.underlying4 _), (trodAll_cons_mk (Below.trod skewGrows_laid (by kernel_rfl) (of_decide_eq_true (by kernel_rfl)) k0 bel lt0) (trodAll_cons_mk (Below.trod skewGrows_laid (by kernel_rfl) (of_decide_eq_true (by kernel_rfl)) k1 bel lt1) trodAll_mk0)), rfl, bel.frame _, fun h => by cases h⟩
theorem skewGrows_holds : Rows.SkewGrowsSaid :=
  OpenClaim.holds_of_wide 10 Try.f10 rfl rfl rfl rfl rfl rfl rfl ⟨rfl, rfl, rfl, rfl, rfl⟩ rfl rfl rfl rfl rfl (by kernel_rfl) Try.func10 (by kernel_rfl)
    (of_decide_eq_true (by kernel_rfl)) (by unfold Func.isWrapper; first | (rw [if_pos (by decide +kernel)]; kernel_rfl) | (rw [if_neg (by decide +kernel)]; exact ⟨rfl, rfl⟩))
    (fun os started H enc _ => skewGrows_lifted os started H enc)
#print axioms skewGrows_holds
end Go.Proofs.Ythhmgodnmgmjdaa
