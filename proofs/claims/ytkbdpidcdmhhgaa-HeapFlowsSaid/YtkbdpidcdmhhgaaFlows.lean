/-
  As time goes by, what comes out of a heap never stands behind what came out: the law answers true for every input, and its argument reads as before.
-/
import Derived.Test.YtkbdpidcdmhhgaaLaw12
import Derived.Test.YtkbdpidcdmhhgaaNumU
namespace Go.Proofs.Ytkbdpidcdmhhgaa
open Go.ChangeShapes Go.WideShapes Go.ChangeAt Go.RowKit Go.Hg
set_option linter.unusedSimpArgs false
set_option linter.unusedVariables false
def FlowR (w0 : World) (p : Nat) (last : Int) (inn out k : Nat) (w : World) : Prop :=
  ∃ L, RowOK L inn ∧ L.length + out = inn ∧ L.length + k ≤ 200 ∧ (∀ u ∈ L, last ≤ u.1) ∧ At w0 [heapI p 300 inn L] w
set_option maxRecDepth 10000 in
set_option maxHeartbeats 2000000 in
theorem heapFlows_walk (a : Option Addr) (len cap : Nat) (w : World) (h1 : StepRow w a len) :
    Calls Try.prog 7 #[.slice a len cap] w fun e w' => e = .returned (.bool true) ∧ Below w.heap.size w w' := by
  obtain ⟨hlen, b, off, hcell⟩ := h1
  have H := At.start w
  go_enter Try.func7, Try.ntmps7
  go_wp2_with fail
  refine (shown_c H).mono ?_; rintro e w' ⟨rfl, H⟩
  go_wp2_with fail
  refine (newI_c H 300).mono ?_; rintro e w' ⟨p, rfl, H⟩
  replace H : At w [heapI p 300 0 []] w' := H
  go_wp2_with fail
  go_loopw [5, 6, 7, 8, 9] (fun n la x y i wr => ∃ (now last inn out j : Nat), now ≤ 65535 * j ∧ last ≤ now ∧ inn ≤ j ∧ j ≤ 200 ∧ n = .int .u64 now ∧ la = .int .u64 last ∧ x = .int .i64 inn ∧ y = .int .i64 out ∧ i = .int .i64 j ∧ FlowR w p last inn out 0 wr) (fun _ _ _ _ i _ => 200 - (intOf i).toNat)
  case atStart => exact ⟨0, 0, 0, 0, 0, by omega, by omega, by omega, by omega, rfl, rfl, rfl, rfl, rfl, [], RowOK.nil _, rfl, by simp, fun u h => by simp at h, H⟩
  case round =>
    clear H
    obtain ⟨now, last, inn, out, j, hnow, hlast, hin, hj, rfl, rfl, rfl, rfl, rfl, hF⟩ := hrel
    have hnb : (now : Int) ≤ 13107000 := by omega
    have hoi : (out : Int) ≤ inn := by obtain ⟨L, _, h, _⟩ := hF; omega
    by_cases g1 : (j : Int) < len
    · by_cases g2 : (j : Int) < 200
      · obtain ⟨ha, hblt, k, t, x, hst, ht0, ht1⟩ := hcell j (by omega)
        subst ha
        obtain ⟨L, hR, hl, hk, hu, H⟩ := hF
        have c0 := (H.below.cell hblt).trans (hst 0 _ rfl)
        have c1 := (H.below.cell hblt).trans (hst 1 _ rfl)
        simp only [Nat.add_zero] at c0
        clear hcell hst
        obtain ⟨by_, hby, hb0, hb1⟩ := low16u t
        by_cases h3 : k ≤ 2
        · have hp := Lib.hid (push_room (most := 300) (nx := inn) (L := L) (by omega) (now + by_) j)
          have HU := Lib.hid hu
          clear hu
          go_wp2_with fail
          refine (pushI_c H (by omega) (by omega) (by omega) _ _).mono ?_; rintro e w' ⟨rfl, H⟩
          rw [hp.out.1, hp.out.2.1]
          rw [hp.out.2.2.1, hp.out.2.2.2] at H
          go_wp2
          go_roundw
          case rel => exact ⟨now, last, inn + 1, out, j + 1, by omega, by omega, by omega, by omega, rfl, rfl, by go_num, rfl, by go_num, _, hR.push _ _, by simp; omega, by simp; omega, fun u h => by
            rcases List.mem_append.1 h with h | h
            · exact HU.out u h
            · rw [List.mem_singleton.1 h]
              show (last : Int) ≤ now + by_
              omega, H⟩
          case measure => simp [intOf]; omega
        · obtain ⟨nw, hnw⟩ : ∃ nw : Nat, (now : Int) + by_ = nw := ⟨now + by_.toNat, by omega⟩
          have hnw1 : nw ≤ 65535 * (j + 1) := by omega
          have hnw2 : last ≤ nw := by omega
          have hnw3 : (nw : Int) ≤ 13107000 := by omega
          go_wp2_with fail
          go_loopw [6, 8, 13] (fun la y i wr => ∃ (last out q : Nat), last ≤ nw ∧ la = .int .u64 last ∧ y = .int .i64 out ∧ i = .int .i64 q ∧ FlowR w p last inn out q wr) (fun _ _ i _ => 201 - (intOf i).toNat)
          case atStart => exact ⟨last, out, 0, hnw2, rfl, rfl, rfl, L, hR, hl, hk, hu, H⟩
          case round =>
            clear H hR hl hk hu hlast hnw2 hoi c0 c1 hby
            obtain ⟨last, out, q, hlast, rfl, rfl, rfl, L, hR, hl, hk, hu, H⟩ := hrel
            have hq : (q : Int) < 201 := by omega
            have hout : (out : Int) ≤ 200 := by omega
            cases hb : popB L nw with
            | true =>
              obtain ⟨p1, p2, p3, p4, p5⟩ := pop_true hb
              obtain ⟨t, ht⟩ : ∃ t, t = (g L (fk L)).1 := ⟨_, rfl⟩
              rw [← ht] at p2 p5
              have hlt : (last : Int) ≤ t := by rw [ht]; exact hu _ (first_mem p4)
              have hlt2 : ¬ t < last := by omega
              have hlt3 : ¬ (nw : Int) < t := by omega
              obtain ⟨tn, rfl⟩ : ∃ tn : Nat, t = tn := ⟨t.toNat, by omega⟩
              have HU := Lib.hid (show ∀ u ∈ popR L nw, (tn : Int) ≤ u.1 from fun u h => by
                rw [p3] at h
                have := hR.rest h
                rw [ht]
                unfold lt at this
                omega)
              have HL := Lib.hid (show (popR L nw).length + 1 = L.length by rw [p3, List.length_eraseIdx, if_pos (fk_lt p4)]; omega)
              have HP := Lib.hid (And.intro p2 hb)
              clear p1 p2 p3 hb hu ht
              go_wp2_with fail
              refine (popI_c H hR (by omega) _).mono ?_; rintro e w' ⟨rfl, H⟩
              rw [HP.out.1, HP.out.2]
              go_wp2
              go_roundw
              case rel => exact ⟨tn, out + 1, q + 1, by omega, rfl, by go_num, by go_num, _, hR.popR _, by have := HL.out; omega, by have := HL.out; omega, HU.out, H⟩
              case measure => simp [intOf]; omega
            | false =>
              have HB := Lib.hid hb
              have HL := Lib.hid (pop_false hb).2.2
              have HU := Lib.hid hu
              by_cases h0 : 0 < L.length
              · have hn : ¬ nextT L ≤ nw := by
                  unfold nextT
                  rw [if_pos h0]
                  have := popB_false hb _ (first_mem h0)
                  omega
                have hd := Lib.hid (decide_eq_true h0)
                clear hb hu
                go_wp2_with fail
                refine (popI_c H hR (by omega) _).mono ?_; rintro e w' ⟨rfl, H⟩
                rw [HB.out]
                rw [HL.out] at H
                go_wp2_with fail
                refine (nextI_c H hR).mono ?_; rintro e w' ⟨rfl, rfl⟩
                rw [hd.out]
                go_wp2
                go_roundw
                case rel => exact ⟨nw, last, inn, out, j + 1, hnw1, hlast, by omega, by omega, rfl, rfl, rfl, rfl, by go_num, _, hR, by omega, by omega, HU.out, H⟩
                case measure => simp [intOf]; omega
              · have hd := Lib.hid (decide_eq_false h0)
                clear hb hu
                go_wp2_with fail
                refine (popI_c H hR (by omega) _).mono ?_; rintro e w' ⟨rfl, H⟩
                rw [HB.out]
                rw [HL.out] at H
                go_wp2_with fail
                refine (nextI_c H hR).mono ?_; rintro e w' ⟨rfl, rfl⟩
                rw [hd.out]
                go_wp2
                go_roundw
                case rel => exact ⟨nw, last, inn, out, j + 1, hnw1, hlast, by omega, by omega, rfl, rfl, rfl, rfl, by go_num, _, hR, by omega, by omega, HU.out, H⟩
                case measure => simp [intOf]; omega
      · obtain ⟨L, hR, hl, hk, hu, H⟩ := hF
        have hl2 : (inn : Int) - out = L.length := by omega
        clear hl hu
        go_wp2_with fail
        refine (lenI_c H).mono ?_; rintro e w' ⟨rfl, rfl⟩
        go_wp2
        go_ret
        exact ⟨by first | rfl | simp, H.below⟩
    · obtain ⟨L, hR, hl, hk, hu, H⟩ := hF
      have hl2 : (inn : Int) - out = L.length := by omega
      clear hl hu
      go_wp2_with fail
      refine (lenI_c H).mono ?_; rintro e w' ⟨rfl, rfl⟩
      go_wp2
      go_ret
      exact ⟨by first | rfl | simp, H.below⟩
theorem heapFlows_own : ownKnob Try.prog.godebug = none := by kernel_rfl
theorem heapFlows_laid : laidOutB Try.prog = true := by kernel_rfl
set_option maxRecDepth 100000 in
theorem heapFlows_lifted (os : Os) (started : os.Started) (H : Type) (enc : TypeId × Value → H) :
    ReturnsInHanded {} Try.checked os 7 .any (Rows.heapFlowsSpec.pre6 enc Try.prog Try.f7 Rows.heapFlowsRow.domain false) (Rows.heapFlowsSpec.post enc Try.prog Try.f7 false true false false) := by
  refine returnsInHanded_of_change (C := Try.checked) heapFlows_own started (by kernel_rfl) Try.func7
    (ChangeSpec.witness6 (enc := enc) (C := Try.checked) false ⟨#[], #[.slice none 0 0], []⟩ 8 (by kernel_rfl) (by kernel_rfl) (by kernel_rfl) (by kernel_rfl)) ?_
  intro W base args ds gs before hval0 hW hcnd _
  have hval : ∀ (j : Nat) t v, Try.f7.params[j]? = some t → args[j]? = some v → Value.okWide Try.prog W .any base t v := hval0
  have hW' := hW
  obtain ⟨p, q, hA0, hV, rfl, hfz, hnd⟩ := hW
  have hA : DataW.TrodAll enc Try.prog W 0 (fun _ => true) true Try.f7.params.toList args.toList ds p := hA0
  rw [Try.params7] at hA hval
  obtain ⟨v0, vs0, d0, ds0, p0, q0, hargs, rfl, rfl, h0, r0⟩ := trodAll_cons hA
  obtain ⟨rfl, rfl, rfl⟩ := trodAll_nil r0
  obtain rfl : args = #[v0] := by cases args; simp_all
  obtain ⟨rfl, rfl⟩ := trodVars_none hV
  have k0 := h0
  have lt0 : ∀ x ∈ p0, x.block < W.heap.size := by obtain ⟨m, hm⟩ := k0; exact DataW.trod_lt m _ _ _ hm
  obtain ⟨a0_0, a0_1, a0_2, f0, rfl⟩ := open_steps (hval 0 22 v0 rfl rfl) h0
  clear hA0 hval0
  refine (heapFlows_walk a0_0 a0_1 a0_2 W f0).mono fun e W' ⟨he, bel⟩ => ?_
  subst he
  exact ⟨_, rfl, _, _, _, [], _, [], hW', trodAll_mk1 (shut_bool Try.underlying4 _), (trodAll_cons_mk (Below.trod heapFlows_laid (by kernel_rfl) (of_decide_eq_true (by kernel_rfl)) k0 bel lt0) trodAll_mk0), rfl, bel.frame _, fun h => by cases h⟩
theorem heapFlows_holds : Rows.HeapFlowsSaid :=
  OpenClaim.holds_of_wide 7 Try.f7 rfl rfl rfl rfl rfl rfl rfl ⟨rfl, rfl, rfl, rfl, rfl⟩ rfl rfl rfl rfl rfl (by kernel_rfl) Try.func7 (by kernel_rfl)
    (of_decide_eq_true (by kernel_rfl)) (by unfold Func.isWrapper; first | (rw [if_pos (by decide +kernel)]; kernel_rfl) | (rw [if_neg (by decide +kernel)]; exact ⟨rfl, rfl⟩))
    (fun os started H enc _ => heapFlows_lifted os started H enc)
#print axioms heapFlows_holds
end Go.Proofs.Ytkbdpidcdmhhgaa
