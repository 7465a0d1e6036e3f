/-
  Things come out of a heap by their ticks, those of one tick in the order in which they went in: the law answers true for every input, and its argument reads as before.
-/
import Derived.Test.YtkbdpidcdmhhgaaLaw12
namespace Go.Proofs.Ytkbdpidcdmhhgaa
open Go.ChangeShapes Go.WideShapes Go.ChangeAt Go.RowKit Go.Hg
set_option linter.unusedSimpArgs false
set_option linter.unusedVariables false
/-- What is in the heap once so many went out, the last one of which was r. -/
def SortR (w0 : World) (p : Nat) (v : Nat → Int) (m i : Nat) (r : Int) (w : World) : Prop :=
  ∃ L, RowOK L m ∧ L.length + i = m ∧ (∀ u ∈ L, ∃ j : Nat, j < m ∧ u = (v j, (j : Int), (j : Int))) ∧ (r = -1 ∨ ∃ q : Nat, q < m ∧ r = q ∧ ∀ u ∈ L, lt (v q, (q : Int), (q : Int)) u) ∧ At w0 [heapI p 200 m L] w
theorem sort_step {v : Nat → Int} {m i : Nat} {r : Int} {L : List Thing} (hR : RowOK L m) (hl : L.length + i = m) (hu : ∀ u ∈ L, ∃ j : Nat, j < m ∧ u = (v j, (j : Int), (j : Int))) (hr : r = -1 ∨ ∃ q : Nat, q < m ∧ r = q ∧ ∀ u ∈ L, lt (v q, (q : Int), (q : Int)) u) (hv : ∀ j, j < m → v j ≤ 18446744073709551615) (hi : i < m) :
    ∃ x : Nat, x < m ∧ popX L 18446744073709551615 = x ∧ popT L 18446744073709551615 = v x ∧ popB L 18446744073709551615 = true ∧ RowOK (popR L 18446744073709551615) m ∧ (popR L 18446744073709551615).length + (i + 1) = m ∧ (∀ u ∈ popR L 18446744073709551615, ∃ j : Nat, j < m ∧ u = (v j, (j : Int), (j : Int))) ∧ (∀ u ∈ popR L 18446744073709551615, lt (v x, (x : Int), (x : Int)) u) ∧
      (r = -1 ∨ ∃ q : Nat, q < m ∧ r = q ∧ (v q < v x ∨ (v q = v x ∧ (q : Int) < x))) := by
  have h0 : 0 < L.length := by omega
  obtain ⟨x, hx, he⟩ := hu _ (first_mem h0)
  have hb : popB L 18446744073709551615 = true := popB_true h0 (by rw [he]; exact hv x hx)
  obtain ⟨h1, h2, h3, _, _⟩ := pop_true hb
  rw [he] at h1 h2
  refine ⟨x, hx, h1, h2, hb, hR.popR _, ?_, fun u h => hu u (popR_sub h), fun u h => ?_, ?_⟩
  · rw [h3, List.length_eraseIdx, if_pos (fk_lt h0)]; omega
  · rw [h3] at h
    have := hR.rest h
    rw [he] at this
    exact this
  · rcases hr with h | ⟨q, hq, e, h⟩
    · exact .inl h
    · refine .inr ⟨q, hq, e, ?_⟩
      have := h _ (first_mem h0)
      rw [he] at this
      exact this
set_option maxRecDepth 10000 in
set_option maxHeartbeats 2000000 in
theorem heapSorts_walk (a : Option Addr) (len cap : Nat) (w : World) (h1 : IntRow .u64 w a len ∧ len ≤ cap) :
    Calls Try.prog 4 #[.slice a len cap] w fun e w' => e = .returned (.bool true) ∧ Below w.heap.size w w' := by
  obtain ⟨h1, hcap⟩ := h1
  obtain ⟨b, off, v, hlen, hcell⟩ := intRow_fn h1
  clear h1
  have H := At.start w
  obtain ⟨m, hm⟩ : ∃ m : Nat, m = min len 200 := ⟨_, rfl⟩
  have hml : m ≤ len := by omega
  have hm2 : m ≤ 200 := by omega
  have hmin : (if (200 : Int) < (len : Int) then (200 : Int) else (len : Int)) = (m : Int) := by split <;> omega
  have hv : ∀ j, j < m → 0 ≤ v j ∧ v j ≤ 18446744073709551615 := fun j hj => bounds_u64 (hcell j (by omega)).2.2
  have hcap2 : (m : Int) ≤ cap := by omega
  clear hm
  go_enter Try.func4, Try.ntmps4
  go_wp2_with fail
  refine (shown_c H).mono ?_; rintro e w' ⟨rfl, H⟩
  go_wp2_with fail
  refine (newI_c H 200).mono ?_; rintro e w' ⟨p, rfl, H⟩
  replace H : At w [heapI p 200 0 []] w' := H
  go_wp2_with fail
  clear hmin
  go_loopw [5] (fun i wr => ∃ j : Nat, j ≤ m ∧ i = .int .i64 j ∧ At w [heapI p 200 j (row v j)] wr) (fun i _ => m - (intOf i).toNat)
  case atStart => exact ⟨0, by omega, rfl, H⟩
  case round =>
    clear H
    obtain ⟨j, hj, rfl, H⟩ := hrel
    by_cases hlt : (j : Int) < m
    · obtain ⟨ha, hx, _⟩ := hcell j (by omega)
      subst ha
      have hx2 := (H.below.cell (World.block_lt_of_cell? w _ hx)).trans hx
      clear hx
      have hp := Lib.hid (push_room (most := 200) (nx := j) (L := row v j) (by rw [row_length]; omega) (v j) j)
      go_wp2_with fail
      refine (pushI_c H (by omega) (by omega) (by rw [row_length]; omega) _ _).mono ?_; rintro e w' ⟨rfl, H⟩
      rw [hp.out.1, hp.out.2.1]
      rw [hp.out.2.2.1, hp.out.2.2.2, ← row_succ] at H
      go_wp2
      go_roundw
      case rel => exact ⟨j + 1, by omega, by go_num, H⟩
      case measure => simp [intOf]; omega
    · have hjm : j = m := by omega
      subst hjm
      have hR := row_ok v j
      go_wp2_with fail
      go_loopw [8, 9] (fun r i wr => ∃ (k : Nat) (q : Int), k ≤ j ∧ r = .int .i64 q ∧ i = .int .i64 k ∧ SortR w p v j k q wr) (fun _ i _ => j - (intOf i).toNat)
      case atStart => exact ⟨0, -1, by omega, rfl, rfl, _, hR, by rw [row_length]; omega, fun u h => row_mem h, .inl rfl, H⟩
      case round =>
        clear H hR hlt hj
        obtain ⟨k, q, hk, rfl, rfl, L, hR, hl, hu, hr, H⟩ := hrel
        by_cases hlt : (k : Int) < j
        · obtain ⟨x, hx, h1, h2, h3, h4, h5, h6, h7, h8⟩ := sort_step hR hl hu hr (fun j hj => (hv j hj).2) (by omega)
          have HA := Lib.hid (And.intro h4 (And.intro h5 (And.intro h6 h7)))
          have HP := Lib.hid (And.intro h1 (And.intro h2 h3))
          clear h1 h2 h3 h4 h5 h6 h7 hu hr
          go_wp2_with fail
          refine (popI_c H hR (by omega) _).mono ?_; rintro e w' ⟨rfl, H⟩
          rw [HP.out.1, HP.out.2.1, HP.out.2.2]
          obtain ⟨ha, hcx, _⟩ := hcell x (by omega)
          subst ha
          have hx2 := (H.below.cell (World.block_lt_of_cell? w _ hcx)).trans hcx
          have hx3 : (x : Int) < j := by omega
          clear hcx
          rcases h8 with rfl | ⟨q, hq, rfl, hlt2 | ⟨he, hlt2⟩⟩
          · clear hcell
            go_wp2
            go_roundw
            case rel => exact ⟨k + 1, x, by omega, rfl, by go_num, _, HA.out.1, HA.out.2.1, HA.out.2.2.1, .inr ⟨x, hx, rfl, HA.out.2.2.2⟩, H⟩
            case measure => simp [intOf]; omega
          · obtain ⟨_, hcq, _⟩ := hcell q (by omega)
            have hq2 := (H.below.cell (World.block_lt_of_cell? w _ hcq)).trans hcq
            have g1 : ¬ v x < v q := by omega
            have g2 : ¬ v q = v x := by omega
            clear hcell hcq
            go_wp2
            go_roundw
            case rel => exact ⟨k + 1, x, by omega, rfl, by go_num, _, HA.out.1, HA.out.2.1, HA.out.2.2.1, .inr ⟨x, hx, rfl, HA.out.2.2.2⟩, H⟩
            case measure => simp [intOf]; omega
          · obtain ⟨_, hcq, _⟩ := hcell q (by omega)
            have hq2 := (H.below.cell (World.block_lt_of_cell? w _ hcq)).trans hcq
            have g1 : ¬ v x < v q := by omega
            have g2 : ¬ (x : Int) ≤ q := by omega
            clear hcell hcq
            go_wp2
            go_roundw
            case rel => exact ⟨k + 1, x, by omega, rfl, by go_num, _, HA.out.1, HA.out.2.1, HA.out.2.2.1, .inr ⟨x, hx, rfl, HA.out.2.2.2⟩, H⟩
            case measure => simp [intOf]; omega
        · have hL : L = [] := List.length_eq_zero_iff.1 (by omega)
          subst hL
          go_wp2_with fail
          refine (popI_c H hR (by simp) _).mono ?_; rintro e w' ⟨rfl, H⟩
          rw [show popX [] 18446744073709551615 = 0 from rfl, show popT [] 18446744073709551615 = 0 from rfl, show popB [] 18446744073709551615 = false from rfl]
          replace H : At w [heapI p 200 j []] w' := H
          go_wp2_with fail
          refine (lenI_c H).mono ?_; rintro e w' ⟨rfl, rfl⟩
          go_wp2
          go_ret
          exact ⟨rfl, H.below⟩
theorem heapSorts_own : ownKnob Try.prog.godebug = none := by kernel_rfl
theorem heapSorts_laid : laidOutB Try.prog = true := by kernel_rfl
set_option maxRecDepth 100000 in
theorem heapSorts_lifted (os : Os) (started : os.Started) (H : Type) (enc : TypeId × Value → H) :
    ReturnsInHanded {} Try.checked os 4 .any (Rows.heapSortsSpec.pre6 enc Try.prog Try.f4 Rows.heapSortsRow.domain false) (Rows.heapSortsSpec.post enc Try.prog Try.f4 false true false false) := by
  refine returnsInHanded_of_change (C := Try.checked) heapSorts_own started (by kernel_rfl) Try.func4
    (ChangeSpec.witness6 (enc := enc) (C := Try.checked) false ⟨#[], #[.slice none 0 0], []⟩ 8 (by kernel_rfl) (by kernel_rfl) (by kernel_rfl) (by kernel_rfl)) ?_
  intro W base args ds gs before hval0 hW hcnd _
  have hval : ∀ (j : Nat) t v, Try.f4.params[j]? = some t → args[j]? = some v → Value.okWide Try.prog W .any base t v := hval0
  have hW' := hW
  obtain ⟨p, q, hA0, hV, rfl, hfz, hnd⟩ := hW
  have hA : DataW.TrodAll enc Try.prog W 0 (fun _ => true) true Try.f4.params.toList args.toList ds p := hA0
  rw [Try.params4] at hA hval
  obtain ⟨v0, vs0, d0, ds0, p0, q0, hargs, rfl, rfl, h0, r0⟩ := trodAll_cons hA
  obtain ⟨rfl, rfl, rfl⟩ := trodAll_nil r0
  obtain rfl : args = #[v0] := by cases args; simp_all
  obtain ⟨rfl, rfl⟩ := trodVars_none hV
  have k0 := h0
  have lt0 : ∀ x ∈ p0, x.block < W.heap.size := by obtain ⟨m, hm⟩ := k0; exact DataW.trod_lt m _ _ _ hm
  obtain ⟨a0, len0, cap0, rfl⟩ := okWide_slice Try.underlying45 (hval 0 45 v0 rfl rfl)
  have f0 : IntRow .u64 W a0 len0 ∧ len0 ≤ cap0 := by
    obtain ⟨fuel, hf⟩ := h0
    rcases open_ints Try.underlying45 Try.underlying28 (by kernel_rfl) hf with ⟨hcs, _⟩ | ⟨x, l, c, zs, hcs, _, hl, hm, hz, _, hcell, hwz⟩
    · simp [Value.cells] at hcs
      obtain ⟨rfl, rfl, rfl⟩ := hcs
      exact ⟨intRow_of (cap := 0) (zs := []) (.inl ⟨rfl, rfl⟩), Nat.le_refl _⟩
    · simp [Value.cells] at hcs
      obtain ⟨rfl, rfl, rfl⟩ := hcs
      exact ⟨intRow_of (.inr ⟨_, rfl, hl, hm, by simpa using hz, hcell, hwz⟩), hl⟩
  clear hA0 hval0
  refine (heapSorts_walk a0 len0 cap0 W f0).mono fun e W' ⟨he, bel⟩ => ?_
  subst he
  exact ⟨_, rfl, _, _, _, [], _, [], hW', trodAll_mk1 (shut_bool Try.underlying4 _), (trodAll_cons_mk (Below.trod heapSorts_laid (by kernel_rfl) (of_decide_eq_true (by kernel_rfl)) k0 bel lt0) trodAll_mk0), rfl, bel.frame _, fun h => by cases h⟩
theorem heapSorts_holds : Rows.HeapSortsSaid :=
  OpenClaim.holds_of_wide 4 Try.f4 rfl rfl rfl rfl rfl rfl rfl ⟨rfl, rfl, rfl, rfl, rfl⟩ rfl rfl rfl rfl rfl (by kernel_rfl) Try.func4 (by kernel_rfl)
    (of_decide_eq_true (by kernel_rfl)) (by unfold Func.isWrapper; first | (rw [if_pos (by decide +kernel)]; kernel_rfl) | (rw [if_neg (by decide +kernel)]; exact ⟨rfl, rfl⟩))
    (fun os started H enc _ => heapSorts_lifted os started H enc)
#print axioms heapSorts_holds
end Go.Proofs.Ytkbdpidcdmhhgaa
