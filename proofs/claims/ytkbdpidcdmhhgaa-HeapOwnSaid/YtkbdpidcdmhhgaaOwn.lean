/-
  Two heaps have nothing to do with each other: the law answers true for every input, and its arguments read as before.
-/
import Derived.Test.YtkbdpidcdmhhgaaLaw12
namespace Go.Proofs.Ytkbdpidcdmhhgaa
open Go.ChangeShapes Go.WideShapes Go.ChangeAt Go.RowKit Go.Hg
set_option linter.unusedSimpArgs false
set_option linter.unusedVariables false
def OwnR (w0 : World) (pa pb pc : Nat) (j : Nat) (w : World) : Prop :=
  ∃ L M n k, RowOK L n ∧ RowOK M k ∧ (0 ≤ n ∧ n ≤ j) ∧ (0 ≤ k ∧ k ≤ j) ∧ L.length ≤ j ∧ M.length ≤ j ∧ At w0 [heapI pc 9 n L, heapI pb 9 k M, heapI pa 9 n L] w
theorem pushX_le (most nx : Int) (L : List Thing) : nx ≤ pushX most nx L ∧ pushX most nx L ≤ nx + 1 := by unfold pushX; split <;> omega
set_option maxRecDepth 10000 in
set_option maxHeartbeats 2000000 in
theorem heapOwn_walk (a : Option Addr) (len cap : Nat) (a2 : Option Addr) (len2 cap2 : Nat) (w : World) (h1 : StepRow w a len) (h2 : BoolRow w a2 len2) :
    Calls Try.prog 8 #[.slice a len cap, .slice a2 len2 cap2] w fun e w' => e = .returned (.bool true) ∧ Below w.heap.size w w' := by
  obtain ⟨hlen, b, off, hcell⟩ := h1
  obtain ⟨hlen2, b2, off2, hcell2⟩ := h2
  have H := At.start w
  go_enter Try.func8, Try.ntmps8
  go_wp2_with fail
  refine (shown_c H).mono ?_; rintro e w' ⟨rfl, H⟩
  go_wp2_with fail
  refine (newI_c H 9).mono ?_; rintro e w' ⟨pa, rfl, H⟩
  go_wp2_with fail
  refine (newI_c H 9).mono ?_; rintro e w' ⟨pb, rfl, H⟩
  go_wp2_with fail
  refine (newI_c H 9).mono ?_; rintro e w' ⟨pc, rfl, H⟩
  replace H : At w [heapI pc 9 0 [], heapI pb 9 0 [], heapI pa 9 0 []] w' := H
  go_wp2_with fail
  go_loopw [9] (fun i wr => ∃ j : Nat, j ≤ 100 ∧ i = .int .i64 j ∧ OwnR w pa pb pc j wr) (fun i _ => 100 - (intOf i).toNat)
  case atStart => exact ⟨0, by omega, rfl, [], [], 0, 0, RowOK.nil _, RowOK.nil _, by simp, by simp, by simp, by simp, H⟩
  case round =>
    clear H
    obtain ⟨j, hj, rfl, hO⟩ := hrel
    by_cases g1 : (j : Int) < len
    · by_cases g2 : (j : Int) < 100
      · obtain ⟨L, M, n, k, hR, hM, hn, hk, hl, hm, H⟩ := hO
        obtain ⟨ha, hblt, kd, t, x, hst, _, _⟩ := hcell j (by omega)
        subst ha
        have hst' : wr.rangeAt b (off + j * 3) (stepC kd t x) := fun q v hv => (H.below.cell hblt).trans (hst q v hv)
        clear hcell hst
        by_cases g3 : (j : Int) < len2
        · obtain ⟨ha2, hblt2, o, ho⟩ := hcell2 j (by omega)
          subst ha2
          clear hcell2
          cases o with
          | true =>
            by_cases h3 : kd ≤ 2
            · go_wp2_with ((first | (with_reducible refine wpList_op rfl ?_) | (refine wpList_opif (by rfl) ?_)); intro _ hK; first | (refine wp_get 4 _ rfl rfl (by kernel_rfl) ((H.below.cell hblt2).trans ho) (hK _ _ ?_)) | (refine wp_alloc_sl _ rfl info_Step H (fun B w' (H : At w [raw B _ 30, _, _, _] w') _ => hK _ _ ?_)) | (refine wp_store_row_sl (cells := (stepC kd t x).toArray) _ _ _ rfl rfl rfl (by kernel_rfl) (by simp [stepC, Value.oneCell']) 0 H rfl rfl fun w' (H : At w [raw B #[.int .i64 kd, .int .u64 t, .int .i64 x] 30, _, _, _] w') => hK _ _ ?_) | (refine wp_mid 30 _ rfl rfl (stepC kd t x) (by kernel_rfl) (by kernel_rfl) hst' (hK _ _ ?_)) | (refine wp_get _ _ rfl rfl (by kernel_rfl) (raw_at (H.heap 0 rfl) rfl) (hK _ _ ?_)))
              refine (pushI_c (H.pull 2 rfl) hk.1 (by omega) (by omega) _ _).mono ?_; rintro e w' ⟨rfl, H⟩
              have hp := pushX_le 9 k M
              have hp2 := pushL_le 9 k M t x
              go_wp2
              go_roundw
              case rel => exact ⟨j + 1, by omega, by go_num, L, _, n, _, hR, hM.pushL _ _, by omega, by omega, by omega, by omega, ((H.pull 2 rfl).mask [true, true, false, true])⟩
              case measure => simp [intOf]; omega
            · go_wp2_with ((first | (with_reducible refine wpList_op rfl ?_) | (refine wpList_opif (by rfl) ?_)); intro _ hK; first | (refine wp_get 4 _ rfl rfl (by kernel_rfl) ((H.below.cell hblt2).trans ho) (hK _ _ ?_)) | (refine wp_alloc_sl _ rfl info_Step H (fun B w' (H : At w [raw B _ 30, _, _, _] w') _ => hK _ _ ?_)) | (refine wp_store_row_sl (cells := (stepC kd t x).toArray) _ _ _ rfl rfl rfl (by kernel_rfl) (by simp [stepC, Value.oneCell']) 0 H rfl rfl fun w' (H : At w [raw B #[.int .i64 kd, .int .u64 t, .int .i64 x] 30, _, _, _] w') => hK _ _ ?_) | (refine wp_mid 30 _ rfl rfl (stepC kd t x) (by kernel_rfl) (by kernel_rfl) hst' (hK _ _ ?_)) | (refine wp_get _ _ rfl rfl (by kernel_rfl) (raw_at (H.heap 0 rfl) rfl) (hK _ _ ?_)))
              refine (popI_c (H.pull 2 rfl) hM (by omega) _).mono ?_; rintro e w' ⟨rfl, H⟩
              have hp := popR_le M t
              go_wp2
              go_roundw
              case rel => exact ⟨j + 1, by omega, by go_num, L, _, n, k, hR, hM.popR _, by omega, by omega, by omega, by omega, ((H.pull 2 rfl).mask [true, true, false, true])⟩
              case measure => simp [intOf]; omega
          | false =>
            by_cases h3 : kd ≤ 2
            · go_wp2_with ((first | (with_reducible refine wpList_op rfl ?_) | (refine wpList_opif (by rfl) ?_)); intro _ hK; first | (refine wp_get 4 _ rfl rfl (by kernel_rfl) ((H.below.cell hblt2).trans ho) (hK _ _ ?_)) | (refine wp_alloc_sl _ rfl info_Step H (fun B w' (H : At w [raw B _ 30, _, _, _] w') _ => hK _ _ ?_)) | (refine wp_store_row_sl (cells := (stepC kd t x).toArray) _ _ _ rfl rfl rfl (by kernel_rfl) (by simp [stepC, Value.oneCell']) 0 H rfl rfl fun w' (H : At w [raw B #[.int .i64 kd, .int .u64 t, .int .i64 x] 30, _, _, _] w') => hK _ _ ?_) | (refine wp_mid 30 _ rfl rfl (stepC kd t x) (by kernel_rfl) (by kernel_rfl) hst' (hK _ _ ?_)) | (refine wp_get _ _ rfl rfl (by kernel_rfl) (raw_at (H.heap 0 rfl) rfl) (hK _ _ ?_)))
              refine (pushI_c (H.pull 3 rfl) hn.1 (by omega) (by omega) _ _).mono ?_; rintro e w' ⟨rfl, H⟩
              go_wp2_with ((with_reducible refine wpList_op rfl ?_); intro _ hK; refine wp_get _ _ rfl rfl (by kernel_rfl) (raw_at (H.heap 1 rfl) rfl) (hK _ _ ?_))
              refine (pushI_c (H.pull 2 rfl) hn.1 (by omega) (by omega) _ _).mono ?_; rintro e w' ⟨rfl, H⟩
              have hp := pushX_le 9 n L
              have hp2 := pushL_le 9 n L t x
              go_wp2
              go_roundw
              case rel => exact ⟨j + 1, by omega, by go_num, _, M, _, k, hR.pushL _ _, hM, by omega, by omega, by omega, by omega, (((H.pull 3 rfl).pull 1 rfl).mask [true, true, true])⟩
              case measure => simp [intOf]; omega
            · go_wp2_with ((first | (with_reducible refine wpList_op rfl ?_) | (refine wpList_opif (by rfl) ?_)); intro _ hK; first | (refine wp_get 4 _ rfl rfl (by kernel_rfl) ((H.below.cell hblt2).trans ho) (hK _ _ ?_)) | (refine wp_alloc_sl _ rfl info_Step H (fun B w' (H : At w [raw B _ 30, _, _, _] w') _ => hK _ _ ?_)) | (refine wp_store_row_sl (cells := (stepC kd t x).toArray) _ _ _ rfl rfl rfl (by kernel_rfl) (by simp [stepC, Value.oneCell']) 0 H rfl rfl fun w' (H : At w [raw B #[.int .i64 kd, .int .u64 t, .int .i64 x] 30, _, _, _] w') => hK _ _ ?_) | (refine wp_mid 30 _ rfl rfl (stepC kd t x) (by kernel_rfl) (by kernel_rfl) hst' (hK _ _ ?_)) | (refine wp_get _ _ rfl rfl (by kernel_rfl) (raw_at (H.heap 0 rfl) rfl) (hK _ _ ?_)))
              refine (popI_c (H.pull 3 rfl) hR (by omega) _).mono ?_; rintro e w' ⟨rfl, H⟩
              go_wp2_with ((with_reducible refine wpList_op rfl ?_); intro _ hK; refine wp_get _ _ rfl rfl (by kernel_rfl) (raw_at (H.heap 1 rfl) rfl) (hK _ _ ?_))
              refine (popI_c (H.pull 2 rfl) hR (by omega) _).mono ?_; rintro e w' ⟨rfl, H⟩
              have hp := popR_le L t
              go_wp2
              go_roundw
              case rel => exact ⟨j + 1, by omega, by go_num, _, M, n, k, hR.popR _, hM, by omega, by omega, by omega, by omega, (((H.pull 3 rfl).pull 1 rfl).mask [true, true, true])⟩
              case measure => simp [intOf]; omega
        · clear hcell2
          by_cases h3 : kd ≤ 2
          · go_wp2_with ((with_reducible refine wpList_op rfl ?_); intro _ hK; first | (refine wp_alloc_sl _ rfl info_Step H (fun B w' (H : At w [raw B _ 30, _, _, _] w') _ => hK _ _ ?_)) | (refine wp_store_row_sl (cells := (stepC kd t x).toArray) _ _ _ rfl rfl rfl (by kernel_rfl) (by simp [stepC, Value.oneCell']) 0 H rfl rfl fun w' (H : At w [raw B #[.int .i64 kd, .int .u64 t, .int .i64 x] 30, _, _, _] w') => hK _ _ ?_) | (refine wp_mid 30 _ rfl rfl (stepC kd t x) (by kernel_rfl) (by kernel_rfl) hst' (hK _ _ ?_)) | (refine wp_get _ _ rfl rfl (by kernel_rfl) (raw_at (H.heap 0 rfl) rfl) (hK _ _ ?_)))
            refine (pushI_c (H.pull 3 rfl) hn.1 (by omega) (by omega) _ _).mono ?_; rintro e w' ⟨rfl, H⟩
            go_wp2_with ((with_reducible refine wpList_op rfl ?_); intro _ hK; refine wp_get _ _ rfl rfl (by kernel_rfl) (raw_at (H.heap 1 rfl) rfl) (hK _ _ ?_))
            refine (pushI_c (H.pull 2 rfl) hn.1 (by omega) (by omega) _ _).mono ?_; rintro e w' ⟨rfl, H⟩
            have hp := pushX_le 9 n L
            have hp2 := pushL_le 9 n L t x
            go_wp2
            go_roundw
            case rel => exact ⟨j + 1, by omega, by go_num, _, M, _, k, hR.pushL _ _, hM, by omega, by omega, by omega, by omega, (((H.pull 3 rfl).pull 1 rfl).mask [true, true, true])⟩
            case measure => simp [intOf]; omega
          · go_wp2_with ((with_reducible refine wpList_op rfl ?_); intro _ hK; first | (refine wp_alloc_sl _ rfl info_Step H (fun B w' (H : At w [raw B _ 30, _, _, _] w') _ => hK _ _ ?_)) | (refine wp_store_row_sl (cells := (stepC kd t x).toArray) _ _ _ rfl rfl rfl (by kernel_rfl) (by simp [stepC, Value.oneCell']) 0 H rfl rfl fun w' (H : At w [raw B #[.int .i64 kd, .int .u64 t, .int .i64 x] 30, _, _, _] w') => hK _ _ ?_) | (refine wp_mid 30 _ rfl rfl (stepC kd t x) (by kernel_rfl) (by kernel_rfl) hst' (hK _ _ ?_)) | (refine wp_get _ _ rfl rfl (by kernel_rfl) (raw_at (H.heap 0 rfl) rfl) (hK _ _ ?_)))
            refine (popI_c (H.pull 3 rfl) hR (by omega) _).mono ?_; rintro e w' ⟨rfl, H⟩
            go_wp2_with ((with_reducible refine wpList_op rfl ?_); intro _ hK; refine wp_get _ _ rfl rfl (by kernel_rfl) (raw_at (H.heap 1 rfl) rfl) (hK _ _ ?_))
            refine (popI_c (H.pull 2 rfl) hR (by omega) _).mono ?_; rintro e w' ⟨rfl, H⟩
            have hp := popR_le L t
            go_wp2
            go_roundw
            case rel => exact ⟨j + 1, by omega, by go_num, _, M, n, k, hR.popR _, hM, by omega, by omega, by omega, by omega, (((H.pull 3 rfl).pull 1 rfl).mask [true, true, true])⟩
            case measure => simp [intOf]; omega
      · obtain ⟨L, M, n, k, hR, hM, hn, hk, hl, hm, H⟩ := hO
        go_wp2_with fail
        refine (lenI_c (H.pull 2 rfl)).mono ?_; rintro e w' ⟨rfl, rfl⟩
        go_wp2_with fail
        refine (lenI_c H).mono ?_; rintro e w' ⟨rfl, rfl⟩
        go_wp2
        go_ret
        exact ⟨by first | rfl | simp, H.below⟩
    · obtain ⟨L, M, n, k, hR, hM, hn, hk, hl, hm, H⟩ := hO
      go_wp2_with fail
      refine (lenI_c (H.pull 2 rfl)).mono ?_; rintro e w' ⟨rfl, rfl⟩
      go_wp2_with fail
      refine (lenI_c H).mono ?_; rintro e w' ⟨rfl, rfl⟩
      go_wp2
      go_ret
      exact ⟨by first | rfl | simp, H.below⟩
theorem heapOwn_own : ownKnob Try.prog.godebug = none := by kernel_rfl
theorem heapOwn_laid : laidOutB Try.prog = true := by kernel_rfl
set_option maxRecDepth 100000 in
theorem heapOwn_lifted (os : Os) (started : os.Started) (H : Type) (enc : TypeId × Value → H) :
    ReturnsInHanded {} Try.checked os 8 .any (Rows.heapOwnSpec.pre6 enc Try.prog Try.f8 Rows.heapOwnRow.domain false) (Rows.heapOwnSpec.post enc Try.prog Try.f8 false true false false) := by
  refine returnsInHanded_of_change (C := Try.checked) heapOwn_own started (by kernel_rfl) Try.func8
    (ChangeSpec.witness6 (enc := enc) (C := Try.checked) false ⟨#[], #[.slice none 0 0, .slice none 0 0], []⟩ 8 (by kernel_rfl) (by kernel_rfl) (by kernel_rfl) (by kernel_rfl)) ?_
  intro W base args ds gs before hval0 hW hcnd _
  have hval : ∀ (j : Nat) t v, Try.f8.params[j]? = some t → args[j]? = some v → Value.okWide Try.prog W .any base t v := hval0
  have hW' := hW
  obtain ⟨p, q, hA0, hV, rfl, hfz, hnd⟩ := hW
  have hA : DataW.TrodAll enc Try.prog W 0 (fun _ => true) true Try.f8.params.toList args.toList ds p := hA0
  rw [Try.params8] at hA hval
  obtain ⟨v0, vs0, d0, ds0, p0, q0, hargs, rfl, rfl, h0, r0⟩ := trodAll_cons hA
  obtain ⟨v1, vs1, d1, ds1, p1, q1, rfl, rfl, rfl, h1, r1⟩ := trodAll_cons r0
  obtain ⟨rfl, rfl, rfl⟩ := trodAll_nil r1
  obtain rfl : args = #[v0, v1] := by cases args; simp_all
  obtain ⟨rfl, rfl⟩ := trodVars_none hV
  have k0 := h0
  have lt0 : ∀ x ∈ p0, x.block < W.heap.size := by obtain ⟨m, hm⟩ := k0; exact DataW.trod_lt m _ _ _ hm
  have k1 := h1
  have lt1 : ∀ x ∈ p1, x.block < W.heap.size := by obtain ⟨m, hm⟩ := k1; exact DataW.trod_lt m _ _ _ hm
  obtain ⟨a0_0, a0_1, a0_2, f0, rfl⟩ := open_steps (hval 0 22 v0 rfl rfl) h0
  obtain ⟨a1_0, a1_1, a1_2, f1, rfl⟩ := open_bools_row (hval 1 54 v1 rfl rfl) h1
  clear hA0 hval0
  refine (heapOwn_walk a0_0 a0_1 a0_2 a1_0 a1_1 a1_2 W f0 f1).mono fun e W' ⟨he, bel⟩ => ?_
  subst he
  exact ⟨_, rfl, _, _, _, [], _, [], hW', trodAll_mk1 (shut_bool Try.underlying4 _), (trodAll_cons_mk (Below.trod heapOwn_laid (by kernel_rfl) (of_decide_eq_true (by kernel_rfl)) k0 bel lt0) (trodAll_cons_mk (Below.trod heapOwn_laid (by kernel_rfl) (of_decide_eq_true (by kernel_rfl)) k1 bel lt1) trodAll_mk0)), rfl, bel.frame _, fun h => by cases h⟩
theorem heapOwn_holds : Rows.HeapOwnSaid :=
  OpenClaim.holds_of_wide 8 Try.f8 rfl rfl rfl rfl rfl rfl rfl ⟨rfl, rfl, rfl, rfl, rfl⟩ rfl rfl rfl rfl rfl (by kernel_rfl) Try.func8 (by kernel_rfl)
    (of_decide_eq_true (by kernel_rfl)) (by unfold Func.isWrapper; first | (rw [if_pos (by decide +kernel)]; kernel_rfl) | (rw [if_neg (by decide +kernel)]; exact ⟨rfl, rfl⟩))
    (fun os started H enc _ => heapOwn_lifted os started H enc)
#print axioms heapOwn_holds
end Go.Proofs.Ytkbdpidcdmhhgaa
