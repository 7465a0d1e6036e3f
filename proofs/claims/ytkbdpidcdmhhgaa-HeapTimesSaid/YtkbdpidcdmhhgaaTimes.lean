/-
  Nothing comes out of a heap ahead of its time, and everything at its time, if it is asked for then: the law answers true for every input, and its argument reads as before.
-/
import Derived.Test.YtkbdpidcdmhhgaaLaw12
namespace Go.Proofs.Ytkbdpidcdmhhgaa
open Go.ChangeShapes Go.WideShapes Go.ChangeAt Go.RowKit Go.Hg
set_option linter.unusedSimpArgs false
set_option linter.unusedVariables false
/-- What is in the heap, once so many went out: none is for a time that is over. -/
def TimeR (w0 : World) (p : Nat) (t : Nat → Int) (m n : Nat) (now : Int) (k : Nat) (w : World) : Prop :=
  ∃ L, RowOK L m ∧ L.length + n = m ∧ L.length + k ≤ 100 ∧ (∀ u ∈ L, ∃ j : Nat, j < m ∧ u = (t j, (j : Int), (j : Int)) ∧ now ≤ t j) ∧ At w0 [heapI p 100 m L] w
theorem time_pop {t : Nat → Int} {m : Nat} {now : Int} {L : List Thing} (hu : ∀ u ∈ L, ∃ j : Nat, j < m ∧ u = (t j, (j : Int), (j : Int)) ∧ now ≤ t j) (hb : popB L now = true) :
    ∃ x : Nat, x < m ∧ popX L now = x ∧ popT L now = now ∧ t x = now ∧ (popR L now).length + 1 = L.length := by
  obtain ⟨h1, h2, h3, h4, h5⟩ := pop_true hb
  obtain ⟨x, hx, he, hn⟩ := hu _ (first_mem h4)
  rw [he] at h1 h2 h5
  have h6 : t x = now := by have h5' : t x ≤ now := h5; omega
  refine ⟨x, hx, h1, by rw [h2]; exact h6, h6, ?_⟩
  rw [h3, List.length_eraseIdx, if_pos (fk_lt h4)]; omega
set_option maxRecDepth 10000 in
set_option maxHeartbeats 2000000 in
theorem heapTimes_walk (a : Option Addr) (len cap : Nat) (w : World) (h1 : IntRow .u64 w a len ∧ len ≤ cap) :
    Calls Try.prog 5 #[.slice a len cap] w fun e w' => e = .returned (.bool true) ∧ Below w.heap.size w w' := by
  obtain ⟨h1, hcap⟩ := h1
  obtain ⟨b, off, v, hlen, hcell⟩ := intRow_fn h1
  clear h1
  have H := At.start w
  obtain ⟨m, hm⟩ : ∃ m : Nat, m = min len 100 := ⟨_, rfl⟩
  have hml : m ≤ len := by omega
  have hm2 : m ≤ 100 := by omega
  have hmin : (if (100 : Int) < (len : Int) then (100 : Int) else (len : Int)) = (m : Int) := by split <;> omega
  obtain ⟨t, ht⟩ : ∃ t : Nat → Int, ∀ j, v j % 1000 = t j := ⟨_, fun _ => rfl⟩
  have htb : ∀ j, 0 ≤ t j ∧ t j < 1000 := fun j => by rw [← ht j]; exact ⟨Int.emod_nonneg _ (by omega), Int.emod_lt_of_pos _ (by omega)⟩
  have hcap2 : (m : Int) ≤ cap := by omega
  clear hm
  go_enter Try.func5, Try.ntmps5
  go_wp2_with fail
  refine (shown_c H).mono ?_; rintro e w' ⟨rfl, H⟩
  go_wp2_with fail
  refine (newI_c H 100).mono ?_; rintro e w' ⟨p, rfl, H⟩
  replace H : At w [heapI p 100 0 []] w' := H
  go_wp2_with fail
  clear hmin
  go_loopw [5] (fun i wr => ∃ j : Nat, j ≤ m ∧ i = .int .i64 j ∧ At w [heapI p 100 j (row t j)] wr) (fun i _ => m - (intOf i).toNat)
  case atStart => exact ⟨0, by omega, rfl, H⟩
  case round =>
    clear H
    obtain ⟨j, hj, rfl, H⟩ := hrel
    by_cases hlt : (j : Int) < m
    · obtain ⟨ha, hx, hxw⟩ := hcell j (by omega)
      subst ha
      have hx2 := (H.below.cell (World.block_lt_of_cell? w _ hx)).trans hx
      have hxb := bounds_u64 hxw
      have htj := ht j
      clear hx hxw
      have hp := Lib.hid (push_room (most := 100) (nx := j) (L := row t j) (by rw [row_length]; omega) (t j) j)
      go_wp2_with fail
      refine (pushI_c H (by omega) (by omega) (by rw [row_length]; omega) _ _).mono ?_; rintro e w' ⟨rfl, H⟩
      rw [hp.out.2.2.1, hp.out.2.2.2, ← row_succ] at H
      go_wp2
      go_roundw
      case rel => exact ⟨j + 1, by omega, by go_num, H⟩
      case measure => simp [intOf]; omega
    · have hjm : j = m := by omega
      subst hjm
      have hR := row_ok t j
      go_wp2_with fail
      go_loopw [6, 7] (fun n i wr => ∃ (k now : Nat), now ≤ 1000 ∧ n = .int .i64 k ∧ i = .int .u64 now ∧ TimeR w p t j k now 0 wr) (fun _ i _ => 1000 - (intOf i).toNat)
      case atStart => exact ⟨0, 0, by omega, rfl, rfl, _, hR, by rw [row_length]; omega, by rw [row_length]; omega, fun u h => by
        obtain ⟨q, hq, e⟩ := row_mem h
        exact ⟨q, hq, e, (htb q).1⟩, H⟩
      case round =>
        clear H hR hlt hj
        obtain ⟨k, now, hnow, rfl, rfl, hT⟩ := hrel
        by_cases hlt : (now : Int) < 1000
        · go_wp2_with fail
          go_loopw [6, 8] (fun n i wr => ∃ (k q : Nat), n = .int .i64 k ∧ i = .int .i64 q ∧ TimeR w p t j k now q wr) (fun _ i _ => 101 - (intOf i).toNat)
          case atStart => exact ⟨k, 0, rfl, rfl, hT⟩
          case round =>
            clear hT
            obtain ⟨k, q, rfl, rfl, L, hR, hl, hq, hu, H⟩ := hrel
            have hq2 : (q : Int) < 101 := by omega
            have hk : (k : Int) ≤ 100 := by omega
            cases hb : popB L now with
            | true =>
              obtain ⟨x, hx, h1, h2, h3, h4⟩ := time_pop hu hb
              have HP := Lib.hid (And.intro h1 h2)
              have HB := Lib.hid hb
              have HU := Lib.hid hu
              have H3 := Lib.hid h4
              have HT := ht x
              clear h1 h2 hb hu h4
              go_wp2_with fail
              refine (popI_c H hR (by omega) _).mono ?_; rintro e w' ⟨rfl, H⟩
              rw [HP.out.1, HP.out.2, HB.out]
              obtain ⟨ha, hcx, hxw⟩ := hcell x (by omega)
              subst ha
              have hx2 := (H.below.cell (World.block_lt_of_cell? w _ hcx)).trans hcx
              have hxb := bounds_u64 hxw
              have hx3 : (x : Int) < j := by omega
              clear hcx hcell hxw
              go_wp2
              go_roundw
              case rel => exact ⟨k + 1, q + 1, by go_num, by go_num, _, hR.popR _, by have := H3.out; omega, by have := H3.out; omega, fun u h => HU.out u (popR_sub h), H⟩
              case measure => simp [intOf]; omega
            | false =>
              have HB := Lib.hid hb
              have HU := Lib.hid (show ∀ u ∈ popR L now, ∃ i : Nat, i < j ∧ u = (t i, (i : Int), (i : Int)) ∧ ((now + 1 : Nat) : Int) ≤ t i from fun u h => by
                obtain ⟨i, h1, h2, h3⟩ := hu u (popR_sub h)
                have h4 := popB_false hb u (popR_sub h)
                rw [h2] at h4
                have h5 : (now : Int) < t i := h4
                exact ⟨i, h1, h2, by omega⟩)
              have HL := Lib.hid (pop_false hb).2.2
              clear hb hu
              go_wp2_with fail
              refine (popI_c H hR (by omega) _).mono ?_; rintro e w' ⟨rfl, H⟩
              rw [HB.out]
              go_wp2
              go_roundw
              case rel => exact ⟨k, now + 1, by omega, rfl, by go_num, _, hR.popR _, by rw [HL.out]; omega, by rw [HL.out]; omega, HU.out, H⟩
              case measure => simp [intOf]; omega
        · obtain ⟨L, hR, hl, hq, hu, H⟩ := hT
          have hL : L = [] := by
            cases L with
            | nil => rfl
            | cons u L =>
              obtain ⟨i, h1, h2, h3⟩ := hu u (by simp)
              have := (htb i).2
              omega
          subst hL
          have hkj : k = j := by simpa using hl
          subst hkj
          go_wp2
          go_ret
          exact ⟨by first | rfl | simp, H.below⟩
theorem heapTimes_own : ownKnob Try.prog.godebug = none := by kernel_rfl
theorem heapTimes_laid : laidOutB Try.prog = true := by kernel_rfl
set_option maxRecDepth 100000 in
theorem heapTimes_lifted (os : Os) (started : os.Started) (H : Type) (enc : TypeId × Value → H) :
    ReturnsInHanded {} Try.checked os 5 .any (Rows.heapTimesSpec.pre6 enc Try.prog Try.f5 Rows.heapTimesRow.domain false) (Rows.heapTimesSpec.post enc Try.prog Try.f5 false true false false) := by
  refine returnsInHanded_of_change (C := Try.checked) heapTimes_own started (by kernel_rfl) Try.func5
    (ChangeSpec.witness6 (enc := enc) (C := Try.checked) false ⟨#[], #[.slice none 0 0], []⟩ 8 (by kernel_rfl) (by kernel_rfl) (by kernel_rfl) (by kernel_rfl)) ?_
  intro W base args ds gs before hval0 hW hcnd _
  have hval : ∀ (j : Nat) t v, Try.f5.params[j]? = some t → args[j]? = some v → Value.okWide Try.prog W .any base t v := hval0
  have hW' := hW
  obtain ⟨p, q, hA0, hV, rfl, hfz, hnd⟩ := hW
  have hA : DataW.TrodAll enc Try.prog W 0 (fun _ => true) true Try.f5.params.toList args.toList ds p := hA0
  rw [Try.params5] at hA hval
  obtain ⟨v0, vs0, d0, ds0, p0, q0, hargs, rfl, rfl, h0, r0⟩ := trodAll_cons hA
  obtain ⟨rfl, rfl, rfl⟩ := trodAll_nil r0
  obtain rfl : args = #[v0] := by cases args; simp_all
  obtain ⟨rfl, rfl⟩ := trodVars_none hV
  have k0 := h0
  have lt0 : ∀ x ∈ p0, x.block < W.heap.size := by obtain ⟨m, hm⟩ := k0; exact DataW.trod_lt m _ _ _ hm
  obtain ⟨a0, len0, cap0, rfl⟩ := okWide_slice Try.underlying45 (hval 0 45 v0 rfl rfl)
  have f0 : IntRow .u64 W a0 len0 ∧ len0 ≤ cap0 := by
    obtain ⟨fuel, hf⟩ := h0
    rcases open_ints Try.underlying45 Try.underlying28 (by kernel_rfl) hf with ⟨hcs, _⟩ | ⟨x, l, c, zs, hcs, _, hl, hm, hz, _, hcell, hwz⟩
    · simp [Value.cells] at hcs
      obtain ⟨rfl, rfl, rfl⟩ := hcs
      exact ⟨intRow_of (cap := 0) (zs := []) (.inl ⟨rfl, rfl⟩), Nat.le_refl _⟩
    · simp [Value.cells] at hcs
      obtain ⟨rfl, rfl, rfl⟩ := hcs
      exact ⟨intRow_of (.inr ⟨_, rfl, hl, hm, by simpa using hz, hcell, hwz⟩), hl⟩
  clear hA0 hval0
  refine (heapTimes_walk a0 len0 cap0 W f0).mono fun e W' ⟨he, bel⟩ => ?_
  subst he
  exact ⟨_, rfl, _, _, _, [], _, [], hW', trodAll_mk1 (shut_bool Try.underlying4 _), (trodAll_cons_mk (Below.trod heapTimes_laid (by kernel_rfl) (of_decide_eq_true (by kernel_rfl)) k0 bel lt0) trodAll_mk0), rfl, bel.frame _, fun h => by cases h⟩
theorem heapTimes_holds : Rows.HeapTimesSaid :=
  OpenClaim.holds_of_wide 5 Try.f5 rfl rfl rfl rfl rfl rfl rfl ⟨rfl, rfl, rfl, rfl, rfl⟩ rfl rfl rfl rfl rfl (by kernel_rfl) Try.func5 (by kernel_rfl)
    (of_decide_eq_true (by kernel_rfl)) (by unfold Func.isWrapper; first | (rw [if_pos (by decide +kernel)]; kernel_rfl) | (rw [if_neg (by decide +kernel)]; exact ⟨rfl, rfl⟩))
    (fun os started H enc _ => heapTimes_lifted os started H enc)
#print axioms heapTimes_holds
end Go.Proofs.Ytkbdpidcdmhhgaa
