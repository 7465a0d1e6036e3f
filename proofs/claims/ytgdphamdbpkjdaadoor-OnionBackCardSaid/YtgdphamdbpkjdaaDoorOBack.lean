/-
  Chapter 11: OnionBack: what was put in comes out.
-/
import Derived.Test.YtgdphamdbpkjdaaDoorLawA
import Derived.Test.YtgdphamdbpkjdaaDoorCard
namespace Go.Proofs.YtgdphamdbpkjdaaDoor
open Go.ChangeShapes Go.WideShapes Go.ChangeAt Go.RowKit Go.Hg
set_option linter.unusedSimpArgs false
set_option linter.unusedVariables false
set_option maxRecDepth 10000 in
set_option maxHeartbeats 8000000 in
theorem onionBack_c {w0 w : World} {F : List SP} {v : Value} {hops : List HopO} {box : Nat} {body : List (BitVec 8)} (G : Glob w0) (H : At w0 F w) (hv : SeeL 54 hopC w0 F v hops) (hbox : box < 65536) (hb : body.length = 256) :
    Calls Tryd.prog 3 #[v, .int .u16 (box : Int), .agg (v8 body).toArray] w fun r w' => r = .returned (.bool true) ∧ At w0 F w' := by
  obtain ⟨a, cap, rfl, hcap, _⟩ := hv.slice
  obtain ⟨n, hn⟩ : ∃ n, n = hops.length := ⟨_, rfl⟩
  rw [← hn] at hv ⊢
  obtain ⟨m, hm⟩ : ∃ m, m = min n 5 := ⟨_, rfl⟩
  have hmin : (if (5 : Int) < (n : Int) then (5 : Int) else (n : Int)) = (m : Int) := by split <;> omega
  obtain ⟨cv, hcv, hrun⟩ := hv.upto el_hop under_hops' elem_hops (k := m) (by omega)
  obtain ⟨L, hL⟩ : ∃ L, L = hops.take m := ⟨_, rfl⟩
  have hLm := Lib.hid (show m = L.length by rw [hL, List.length_take]; omega)
  have hm5 := Lib.hid (show m ≤ 5 by omega)
  rw [← hL] at hcv
  have HCV := Lib.hid hcv
  have HRUN := Lib.hid hrun
  have HB := Lib.hid hb
  have HX := Lib.hid hbox
  clear hb hbox hv hcv hrun hcap hn hm
  go_enter Tryd.func3, Tryd.ntmps3
  go_wp2_with ((with_reducible refine wpList_op rfl ?_); intro _ hK; first
    | (refine dst_is 5 rfl ?_; refine wp_box_sl (v := .agg (v8 body).toArray) 24 _ rfl rfl H (fun A w' (H : At w0 (raw A (v8 body).toArray 24 :: F) w') _ => hK _ _ ?_)))
  refine (shown_c G H).mono ?_; rintro e w' ⟨rfl, H⟩
  go_wp2_with ((with_reducible refine wpList_op rfl ?_); intro _ hK; first
    | (refine dst_is 18 rfl ?_; refine wp_lnew el_hop 22 under_hops rfl H (fun X w' H => hK _ _ ?_))
    | (refine dst_is 23 rfl ?_; refine wp_slice 22 _ _ _ _ rfl (HRUN.out _) (hK _ _ ?_))
    | (refine dst_is 24 rfl ?_; refine wp_lapp el_hop 22 22 under_hops (.inl ⟨_, under_hops⟩) _ _ rfl rfl H rfl (((HCV.out.more _).more _).src el_hop H) (by rw [← hLm.out]; have := hm5.out; simp [maxLen]; omega) (by rw [← hLm.out]; have := hm5.out; simp; omega) (fun b q w' H => ?_); rw [List.nil_append, ← hLm.out] at H ⊢; refine hK _ _ (Stop.go ?_)))
  refine Stop.un ?_
  replace H : At w0 (lrow 35 54 hopC (.slice b m q) L :: raw A (v8 body).toArray 24 :: F) w' := H
  go_wp2_with fail
  go_loopw [8] (fun i wr => ∃ (c : Nat) (Lc : List HopO), c ≤ m ∧ i = .int .i64 (c : Int) ∧ m = Lc.length ∧ (∀ (j : Nat) x, j < c → Lc[j]? = some x → x.1.lo ≤ x.1.hi) ∧ At w0 (lrow 35 54 hopC (.slice b m q) Lc :: raw A (v8 body).toArray 24 :: F) wr) (fun i _ => m - (intOf i).toNat)
  case atStart => exact ⟨0, L, by omega, rfl, hLm.out, fun j x h => by omega, H⟩
  case round =>
    clear H
    obtain ⟨c, Lc, hcm, rfl, hl0, hle, H⟩ := hrel
    have hl := Lib.hid hl0
    clear hl0
    by_cases hc : c < m
    · have hlt : (c : Int) < (m : Int) := by omega
      obtain ⟨h, hx⟩ : ∃ h, Lc[c]? = some h := ⟨_, List.getElem?_eq_getElem (by rw [← hl.out]; omega)⟩
      have HH := Lib.hid hx
      have HLE := Lib.hid hle
      obtain ⟨g, off, rfl⟩ := place_of hl.out H 0 rfl (by omega)
      obtain ⟨lo, hlo⟩ : ∃ n, n = h.1.lo := ⟨_, rfl⟩
      obtain ⟨hi, hhi⟩ : ∃ n, n = h.1.hi := ⟨_, rfl⟩
      have c1 := Lib.hid (show (hopC h)[51]? = some (.int .u64 (lo : Int)) by rw [hlo]; exact HopD.at_post h.2.key h.2.nonce 0)
      have c2 := Lib.hid (show (hopC h)[52]? = some (.int .u64 (hi : Int)) by rw [hhi]; exact HopD.at_post h.2.key h.2.nonce 1)
      obtain ⟨z1, hz1⟩ : ∃ z : HopO, z.1 = { h.1 with lo := hi } := ⟨⟨{ h.1 with lo := hi }, ⟨h.2.addr, h.2.who, h.2.key, h.2.epoch, h.2.nonce, by rw [hhi]; exact h.2.hi, h.2.hi, h.2.delay⟩⟩, rfl⟩
      obtain ⟨z2, hz2⟩ : ∃ z : HopO, z.1 = { z1.1 with hi := lo } := ⟨⟨{ z1.1 with hi := lo }, ⟨z1.2.addr, z1.2.who, z1.2.key, z1.2.epoch, z1.2.nonce, z1.2.lo, by rw [hlo]; exact h.2.lo, z1.2.delay⟩⟩, rfl⟩
      have s1 := Lib.hid (show (hopC h).set 51 (.int .u64 (hi : Int)) = hopC z1 by show h.1.cells.set _ _ = z1.1.cells; rw [hz1]; exact hop_set_lo h.2.key h.2.nonce hi)
      have s2 := Lib.hid (show (hopC z1).set 52 (.int .u64 (lo : Int)) = hopC z2 by show z1.1.cells.set _ _ = z2.1.cells; rw [hz2]; exact hop_set_hi z1.2.key z1.2.nonce lo)
      have s3 := Lib.hid (show (Lc.set c z1)[c]? = some z1 by rw [List.getElem?_set_self (by rw [← hl.out]; omega)])
      have z2lo := Lib.hid (show z2.1.lo = hi by rw [hz2, hz1])
      have z2hi := Lib.hid (show z2.1.hi = lo by rw [hz2])
      have HLO := Lib.hid hlo
      have HHI := Lib.hid hhi
      clear hx hle hlo hhi hz1 hz2
      go_wp2_with fail
      by_cases hg : lo ≤ hi
      · have hg1 : ¬ (hi : Int) < (lo : Int) := by omega
        refine wpM_begin [] ((At w0 (lrow 35 54 hopC (.slice (some ⟨g, off, none⟩) m q) Lc :: raw A (v8 body).toArray 24 :: F))) [(0, 2), (1, 2), (2, 2), (3, 2), (4, 1), (5, 2), (6, 2), (7, 2), (8, 2), (9, 1), (10, 2)] rfl (by kernel_rfl) (by kernel_rfl) ((H.drew)) ?_
        intro ops hOps hS
        replace H := H.drew
        refine wpM_free hOps rfl (fun _ _ _ h => h) (yl_move rfl _ rfl) ?_
        simp only [Act.put, Act.eval, List.setIfInBounds_toArray, List.set_cons_zero, List.set_cons_succ, Array.getD_eq_getD_getElem?, List.getElem?_toArray, List.getElem?_cons_zero, List.getElem?_cons_succ, Option.getD_some]
        refine wpM_free hOps rfl (fun _ _ _ h => h) (yl_move rfl _ rfl) ?_
        simp only [Act.put, Act.eval, List.setIfInBounds_toArray, List.set_cons_zero, List.set_cons_succ, Array.getD_eq_getD_getElem?, List.getElem?_toArray, List.getElem?_cons_zero, List.getElem?_cons_succ, Option.getD_some]
        refine wpM_free hOps (v := ?vOp13) rfl (fun _ _ _ h => h) (yl rfl ?yOp13) ?_
        case yOp13 => (intro w hw; go_simp; first | done | rfl)
        simp only [Act.put, Act.eval, List.setIfInBounds_toArray, List.set_cons_zero, List.set_cons_succ, Array.getD_eq_getD_getElem?, List.getElem?_toArray, List.getElem?_cons_zero, List.getElem?_cons_succ, Option.getD_some]
        refine wpM_free hOps (v := ?vOp15) rfl (fun _ _ _ h => h) (yl rfl ?yOp15) ?_
        case yOp15 => (intro w hw; go_simp; first | done | rfl)
        simp only [Act.put, Act.eval, List.setIfInBounds_toArray, List.set_cons_zero, List.set_cons_succ, Array.getD_eq_getD_getElem?, List.getElem?_toArray, List.getElem?_cons_zero, List.getElem?_cons_succ, Option.getD_some]
        refine wpM_take hOps hS rfl (fun _ _ _ h => h) (yl_get rfl _ _ rfl rfl (by kernel_rfl) (fun w hw => (elem_of (c := hopC) (xs := Lc) (x := h) el_hop hl.out hw 0 rfl HH.out) 51 _ c1.out)) ?_
        simp only [Act.put, Act.eval, List.setIfInBounds_toArray, List.set_cons_zero, List.set_cons_succ, Array.getD_eq_getD_getElem?, List.getElem?_toArray, List.getElem?_cons_zero, List.getElem?_cons_succ, Option.getD_some]
        refine wpM_free hOps rfl (fun _ _ _ h => h) (yl_move rfl _ rfl) ?_
        simp only [Act.put, Act.eval, List.setIfInBounds_toArray, List.set_cons_zero, List.set_cons_succ, Array.getD_eq_getD_getElem?, List.getElem?_toArray, List.getElem?_cons_zero, List.getElem?_cons_succ, Option.getD_some]
        refine wpM_free hOps rfl (fun _ _ _ h => h) (yl_move rfl _ rfl) ?_
        simp only [Act.put, Act.eval, List.setIfInBounds_toArray, List.set_cons_zero, List.set_cons_succ, Array.getD_eq_getD_getElem?, List.getElem?_toArray, List.getElem?_cons_zero, List.getElem?_cons_succ, Option.getD_some]
        refine wpM_free hOps (v := ?vOp25) rfl (fun _ _ _ h => h) (yl rfl ?yOp25) ?_
        case yOp25 => (intro w hw; go_simp; first | done | rfl)
        simp only [Act.put, Act.eval, List.setIfInBounds_toArray, List.set_cons_zero, List.set_cons_succ, Array.getD_eq_getD_getElem?, List.getElem?_toArray, List.getElem?_cons_zero, List.getElem?_cons_succ, Option.getD_some]
        refine wpM_free hOps (v := ?vOp27) rfl (fun _ _ _ h => h) (yl rfl ?yOp27) ?_
        case yOp27 => (intro w hw; go_simp; first | done | rfl)
        simp only [Act.put, Act.eval, List.setIfInBounds_toArray, List.set_cons_zero, List.set_cons_succ, Array.getD_eq_getD_getElem?, List.getElem?_toArray, List.getElem?_cons_zero, List.getElem?_cons_succ, Option.getD_some]
        refine wpM_take hOps hS rfl (fun _ _ _ h => h) (yl_get rfl _ _ rfl rfl (by kernel_rfl) (fun w hw => (elem_of (c := hopC) (xs := Lc) (x := h) el_hop hl.out hw 0 rfl HH.out) 52 _ c2.out)) ?_
        simp only [Act.put, Act.eval, List.setIfInBounds_toArray, List.set_cons_zero, List.set_cons_succ, Array.getD_eq_getD_getElem?, List.getElem?_toArray, List.getElem?_cons_zero, List.getElem?_cons_succ, Option.getD_some]
        refine wpM_free hOps (v := ?vOp31) rfl (fun _ _ _ h => h) (yl rfl ?yOp31) ?_
        case yOp31 => (intro w hw; go_simp; first | done | rfl)
        simp only [Act.put, Act.eval, List.setIfInBounds_toArray, List.set_cons_zero, List.set_cons_succ, Array.getD_eq_getD_getElem?, List.getElem?_toArray, List.getElem?_cons_zero, List.getElem?_cons_succ, Option.getD_some]
        refine wpM_end ?_
        clear hOps hS ops
        go_wp2_with fail
        first
          | (refine ⟨?_, ?measure⟩; iterate 60 (try apply Exists.intro); refine ⟨?rel, rfl⟩)
          | refine ⟨?rel, ?measure⟩
        case rel => exact ⟨c + 1, Lc, by omega, by go_num, hl.out, fun j x hj hx => by
          rcases Nat.lt_succ_iff_lt_or_eq.1 hj with hj | rfl
          · exact HLE.out j x hj hx
          · have := HH.out
            rw [hx] at this
            cases this
            rw [← HLO.out, ← HHI.out]
            exact hg, H⟩
        case measure => simp [intOf]; omega
      · have hg1 : (hi : Int) < (lo : Int) := by omega
        refine wpM_begin [] ((At w0 (lrow 35 54 hopC (.slice (some ⟨g, off, none⟩) m q) Lc :: raw A (v8 body).toArray 24 :: F))) [(0, 2), (1, 2), (2, 2), (3, 2), (4, 1), (5, 2), (6, 2), (7, 2), (8, 2), (9, 1), (10, 2)] rfl (by kernel_rfl) (by kernel_rfl) ((H.drew)) ?_
        intro ops hOps hS
        replace H := H.drew
        refine wpM_free hOps rfl (fun _ _ _ h => h) (yl_move rfl _ rfl) ?_
        simp only [Act.put, Act.eval, List.setIfInBounds_toArray, List.set_cons_zero, List.set_cons_succ, Array.getD_eq_getD_getElem?, List.getElem?_toArray, List.getElem?_cons_zero, List.getElem?_cons_succ, Option.getD_some]
        refine wpM_free hOps rfl (fun _ _ _ h => h) (yl_move rfl _ rfl) ?_
        simp only [Act.put, Act.eval, List.setIfInBounds_toArray, List.set_cons_zero, List.set_cons_succ, Array.getD_eq_getD_getElem?, List.getElem?_toArray, List.getElem?_cons_zero, List.getElem?_cons_succ, Option.getD_some]
        refine wpM_free hOps (v := ?vOp41) rfl (fun _ _ _ h => h) (yl rfl ?yOp41) ?_
        case yOp41 => (intro w hw; go_simp; first | done | rfl)
        simp only [Act.put, Act.eval, List.setIfInBounds_toArray, List.set_cons_zero, List.set_cons_succ, Array.getD_eq_getD_getElem?, List.getElem?_toArray, List.getElem?_cons_zero, List.getElem?_cons_succ, Option.getD_some]
        refine wpM_free hOps (v := ?vOp43) rfl (fun _ _ _ h => h) (yl rfl ?yOp43) ?_
        case yOp43 => (intro w hw; go_simp; first | done | rfl)
        simp only [Act.put, Act.eval, List.setIfInBounds_toArray, List.set_cons_zero, List.set_cons_succ, Array.getD_eq_getD_getElem?, List.getElem?_toArray, List.getElem?_cons_zero, List.getElem?_cons_succ, Option.getD_some]
        refine wpM_take hOps hS rfl (fun _ _ _ h => h) (yl_get rfl _ _ rfl rfl (by kernel_rfl) (fun w hw => (elem_of (c := hopC) (xs := Lc) (x := h) el_hop hl.out hw 0 rfl HH.out) 51 _ c1.out)) ?_
        simp only [Act.put, Act.eval, List.setIfInBounds_toArray, List.set_cons_zero, List.set_cons_succ, Array.getD_eq_getD_getElem?, List.getElem?_toArray, List.getElem?_cons_zero, List.getElem?_cons_succ, Option.getD_some]
        refine wpM_free hOps rfl (fun _ _ _ h => h) (yl_move rfl _ rfl) ?_
        simp only [Act.put, Act.eval, List.setIfInBounds_toArray, List.set_cons_zero, List.set_cons_succ, Array.getD_eq_getD_getElem?, List.getElem?_toArray, List.getElem?_cons_zero, List.getElem?_cons_succ, Option.getD_some]
        refine wpM_free hOps rfl (fun _ _ _ h => h) (yl_move rfl _ rfl) ?_
        simp only [Act.put, Act.eval, List.setIfInBounds_toArray, List.set_cons_zero, List.set_cons_succ, Array.getD_eq_getD_getElem?, List.getElem?_toArray, List.getElem?_cons_zero, List.getElem?_cons_succ, Option.getD_some]
        refine wpM_free hOps (v := ?vOp53) rfl (fun _ _ _ h => h) (yl rfl ?yOp53) ?_
        case yOp53 => (intro w hw; go_simp; first | done | rfl)
        simp only [Act.put, Act.eval, List.setIfInBounds_toArray, List.set_cons_zero, List.set_cons_succ, Array.getD_eq_getD_getElem?, List.getElem?_toArray, List.getElem?_cons_zero, List.getElem?_cons_succ, Option.getD_some]
        refine wpM_free hOps (v := ?vOp55) rfl (fun _ _ _ h => h) (yl rfl ?yOp55) ?_
        case yOp55 => (intro w hw; go_simp; first | done | rfl)
        simp only [Act.put, Act.eval, List.setIfInBounds_toArray, List.set_cons_zero, List.set_cons_succ, Array.getD_eq_getD_getElem?, List.getElem?_toArray, List.getElem?_cons_zero, List.getElem?_cons_succ, Option.getD_some]
        refine wpM_take hOps hS rfl (fun _ _ _ h => h) (yl_get rfl _ _ rfl rfl (by kernel_rfl) (fun w hw => (elem_of (c := hopC) (xs := Lc) (x := h) el_hop hl.out hw 0 rfl HH.out) 52 _ c2.out)) ?_
        simp only [Act.put, Act.eval, List.setIfInBounds_toArray, List.set_cons_zero, List.set_cons_succ, Array.getD_eq_getD_getElem?, List.getElem?_toArray, List.getElem?_cons_zero, List.getElem?_cons_succ, Option.getD_some]
        refine wpM_free hOps (v := ?vOp59) rfl (fun _ _ _ h => h) (yl rfl ?yOp59) ?_
        case yOp59 => (intro w hw; go_simp; first | done | rfl)
        simp only [Act.put, Act.eval, List.setIfInBounds_toArray, List.set_cons_zero, List.set_cons_succ, Array.getD_eq_getD_getElem?, List.getElem?_toArray, List.getElem?_cons_zero, List.getElem?_cons_succ, Option.getD_some]
        refine wpM_end ?_
        clear hOps hS ops
        go_wp2_with ((with_reducible refine wpList_op rfl ?_); intro _ hK; first
          | (refine dst_is 46 rfl ?_; refine wp_get 33 _ rfl rfl (by kernel_rfl) ((elem_of (c := hopC) (xs := Lc) (x := h) el_hop hl.out H 0 rfl HH.out) 51 _ c1.out) (hK _ _ ?_))
          | (refine dst_is 53 rfl ?_; refine wp_get 33 _ rfl rfl (by kernel_rfl) ((elem_of (c := hopC) (xs := Lc) (x := h) el_hop hl.out H 0 rfl HH.out) 52 _ c2.out) (hK _ _ ?_))
          | (refine sto_is 55 rfl ?_; refine wp_lset el_hop 33 _ _ rfl hl.out (j := 51) (y0 := h) (z := z1) rfl rfl (by kernel_rfl) rfl HH.out (by omega) s1.out H (fun w' (H : At w0 (lrow 35 54 hopC (.slice (some ⟨g, off, none⟩) m q) (Lc.set c z1) :: raw A (v8 body).toArray 24 :: F) w') => hK _ _ ?_))
          | (refine sto_is 60 rfl ?_; refine wp_lset el_hop 33 _ _ rfl (hl.out.trans (List.length_set ..).symm) (j := 52) (y0 := z1) (z := z2) rfl rfl (by kernel_rfl) rfl s3.out (by omega) s2.out H (fun w' (H : At w0 (lrow 35 54 hopC (.slice (some ⟨g, off, none⟩) m q) ((Lc.set c z1).set c z2) :: raw A (v8 body).toArray 24 :: F) w') => hK _ _ ?_)))
        first
          | (refine ⟨?_, ?measure⟩; iterate 60 (try apply Exists.intro); refine ⟨?rel, rfl⟩)
          | refine ⟨?rel, ?measure⟩
        case rel => exact ⟨c + 1, (Lc.set c z1).set c z2, by omega, by go_num, by rw [List.length_set, List.length_set]; exact hl.out, fun j x hj hx => by
          rcases Nat.lt_succ_iff_lt_or_eq.1 hj with hj | rfl
          · rw [List.getElem?_set_ne (by omega), List.getElem?_set_ne (by omega)] at hx
            exact HLE.out j x hj hx
          · rw [List.getElem?_set_self (by rw [List.length_set, ← hl.out]; omega)] at hx
            cases hx
            rw [z2lo.out, z2hi.out]
            omega, H⟩
        case measure => simp [intOf]; omega
    · obtain rfl : c = m := by omega
      have HLE := Lib.hid (show ∀ x ∈ Lc, x.1.lo ≤ x.1.hi from fun x hx => by
        obtain ⟨j, hj⟩ := List.mem_iff_getElem?.1 hx
        have := (List.getElem?_eq_some_iff.1 hj).1
        have e := hl.out
        exact hle j x (by omega) hj)
      clear hle
      go_wp2_with ((with_reducible refine wpList_op rfl ?_); intro _ hK; first
        | (refine dst_is 64 rfl ?_; refine wp_lda 24 _ rfl (b := A) (bs := body) rfl (by kernel_rfl) (by rw [HB.out]; exact size_a256) 1 H rfl (hK _ _ ?_)))
      by_cases h0 : c = 0
      · have hc0 : (c : Int) = 0 := by omega
        have hbd : buildOf (Lc.map (·.1)) box body = none := by unfold buildOf; rw [if_pos (by rw [List.length_map, ← hl.out]; omega)]
        refine (build_c G H (see_own el_hop H 0 hl.out rfl) HB.out HX.out).mono ?_; rintro e' w' ⟨rfl, H⟩
        rw [hbd, show BldP none = PktD.zero from rfl, show BldE none = 1 from rfl]
        have zpl := Lib.hid (PktD.cells_length PktD.zero_ok)
        go_wp2_with ((with_reducible refine wpList_op rfl ?_); intro _ hK; first
          | (refine dst_is 10 rfl ?_; refine wp_alloc_sl 39 rfl info_pkt H (fun P w' H _ => hK _ _ ?_))
          | (refine sto_is 10 rfl ?_; refine wp_store_row_sl 39 _ _ rfl (b := P) (cells := PktD.zero.cells.toArray) rfl rfl (by rw [List.size_toArray, zpl.out]; exact size_pkt) (by simpa using PktD.cells_one) 0 H rfl rfl (fun w' H => ?_); replace H := H.maskR [false, false, false]; refine hK _ _ (Stop.go ?_)))
        replace H : At w0 F w' := H
        refine Stop.un ?_
        go_wp2_with ((first | (with_reducible refine wpList_op rfl ?_) | (refine wpList_opif (by rfl) ?_)); intro _ hK; fail)
        exact ⟨rfl, _, results_tmp rfl _ _ _, rfl, H⟩
      · have hc0 : ¬ (c : Int) = 0 := by omega
        have hcb : ((c : Int) == 0) = false := by simp; omega
        obtain ⟨p, hbd, I0⟩ := back_start HX.out HB.out (L := Lc) (by rw [← hl.out]; omega) (by rw [← hl.out]; exact hm5.out) HLE.out
        have II := Lib.hid I0
        have hpl := Lib.hid (PktD.cells_length I0.ok)
        refine (build_is G H (see_own el_hop H 0 hl.out rfl) HB.out HX.out rfl hbd).mono ?_; rintro e' w' ⟨rfl, H⟩
        clear hbd I0
        go_wp2_with ((with_reducible refine wpList_op rfl ?_); intro _ hK; first
          | (refine dst_is 10 rfl ?_; refine wp_alloc_sl 39 rfl info_pkt H (fun P w' (H : At w0 (raw P PktD.zero.cells.toArray 39 :: lrow 35 54 hopC (.slice b c q) Lc :: raw A (v8 body).toArray 24 :: F) w') _ => hK _ _ ?_))
          | (refine sto_is 10 rfl ?_; refine wp_store_row_sl 39 _ _ rfl (b := P) (cells := p.cells.toArray) rfl rfl (by rw [List.size_toArray, hpl.out]; exact size_pkt) (by simpa using PktD.cells_one) 0 H rfl (by rw [List.size_toArray, List.size_toArray, hpl.out]; rfl) (fun w' H => ?_); replace H : At w0 (raw P p.cells.toArray 39 :: lrow 35 54 hopC (.slice b c q) Lc :: raw A (v8 body).toArray 24 :: F) w' := H; refine hK _ _ (Stop.go ?_)))
        refine Stop.un ?_
        obtain ⟨n0, hn0⟩ : ∃ n0, n0 = c := ⟨_, rfl⟩
        subst hn0
        go_wp2_with fail
        go_loopw [12] (fun i wr => ∃ (d : Nat) (p : PktD), d ≤ n0 ∧ i = .int .i64 (d : Int) ∧ BkInv box body Lc d p ∧ At w0 (raw P p.cells.toArray 39 :: lrow 35 54 hopC (.slice b n0 q) Lc :: raw A (v8 body).toArray 24 :: F) wr) (fun i _ => n0 - (intOf i).toNat)
        case atStart => exact ⟨0, p, by omega, rfl, II.out, H⟩
        case round =>
          clear H II hpl
          obtain ⟨d, p, hdm, rfl, I0, H⟩ := hrel
          have I := Lib.hid I0
          clear I0
          have hpl := Lib.hid (PktD.cells_length I.out.ok)
          by_cases hd : d < n0
          · have hlt : (d : Int) < (n0 : Int) := by omega
            obtain ⟨h, hx⟩ : ∃ h, Lc[d]? = some h := ⟨_, List.getElem?_eq_getElem (by rw [← hl.out]; omega)⟩
            obtain ⟨s, r, S⟩ := back_step HX.out HB.out hx I.out
            have HH := Lib.hid hx
            obtain ⟨g, off, rfl⟩ := place_of hl.out H 1 rfl (by omega)
            have po := I.out.ok
            have PO := Lib.hid po
            have sr := peel_ok po S.peel
            have so := Lib.hid sr.1
            have h54 := Lib.hid (HopD.cells_length h.2.key h.2.nonce)
            have hsl := Lib.hid (SlotD.cells_length sr.1.nonce sr.1.mac)
            have hrl := Lib.hid (PktD.cells_length sr.2)
            have hkl := Lib.hid h.2.key
            have hnl := Lib.hid h.2.nonce
            have hml := Lib.hid sr.1.mac
            have f1 := Lib.hid (show p.cells[0]? = some (.int .u16 (h.1.who : Int)) by rw [← S.who]; rfl)
            have f2 := Lib.hid (show p.cells[1]? = some (.int .u32 (h.1.epoch : Int)) by rw [← S.epoch]; rfl)
            have f3 := Lib.hid (show (p.cells.drop 2).take 16 = v8 h.1.nonce by rw [PktD.part_nonce po, S.nonce])
            have f4 := Lib.hid (HopD.part_key h.2.key)
            have f5 := Lib.hid (HopD.at_epoch h.2.key)
            have f6 := Lib.hid (HopD.part_nonce h.2.key h.2.nonce)
            have f7 := Lib.hid (show h.1.cells[51]? = some (.int .u64 (h.1.lo : Int)) from HopD.at_post h.2.key h.2.nonce 0)
            have f8 := Lib.hid (show h.1.cells[52]? = some (.int .u64 (h.1.hi : Int)) from HopD.at_post h.2.key h.2.nonce 1)
            have f9 := Lib.hid (show h.1.cells[53]? = some (.int .u32 (h.1.delay : Int)) from HopD.at_post h.2.key h.2.nonce 2)
            have g7 := Lib.hid (show s.cells[37]? = some (.int .u64 (h.1.lo : Int)) by rw [← S.lo]; exact SlotD.cells_post sr.1.nonce sr.1.mac 0)
            have g8 := Lib.hid (show s.cells[38]? = some (.int .u64 (h.1.hi : Int)) by rw [← S.hi]; exact SlotD.cells_post sr.1.nonce sr.1.mac 1)
            have g9 := Lib.hid (show s.cells[39]? = some (.int .u32 (h.1.delay : Int)) by rw [← S.delay]; exact SlotD.cells_post sr.1.nonce sr.1.mac 2)
            have hinv := Lib.hid S.inv
            have hpe := Lib.hid S.peel
            have hkd := S.kind
            clear hx S sr po
            rcases hkd with ⟨e1, e2, e3⟩ | ⟨n, e1, e2, e3, e4⟩
            · have hd1 : (n0 : Int) - 1 = (d : Int) := by have := hl.out; omega
              have hd2 : IntKind.i64.wrap (d : Int) = (d : Int) := by rw [IntKind.wrap_i64]; have := hm5.out; omega
              have k1 := Lib.hid (show s.cells[0]? = some (.bool true) by rw [← e2]; rfl)
              have k2 := Lib.hid (show s.cells[2]? = some (.int .u16 (box : Int)) by rw [← e3]; rfl)
              clear e1 e2 e3
              go_wp2_with ((with_reducible refine wpList_op rfl ?_); intro _ hK; first
                | (refine dst_is 87 rfl ?_; refine wp_mid 35 _ rfl rfl h.1.cells (by kernel_rfl) (by rw [h54.out]; exact size_hop) (elem_of (c := hopC) (xs := Lc) (x := h) el_hop hl.out H 1 rfl HH.out) (hK _ _ ?_))
                | (refine dst_is 13 rfl ?_; refine wp_alloc_sl 35 rfl info_hop H (fun B w' (H : At w0 (raw B hop0.cells.toArray 35 :: raw P p.cells.toArray 39 :: lrow 35 54 hopC (.slice (some ⟨g, off, none⟩) n0 q) Lc :: raw A (v8 body).toArray 24 :: F) w') _ => hK _ _ ?_))
                | (refine sto_is 13 rfl ?_; refine wp_store_row_sl 35 _ _ rfl (b := B) (cells := h.1.cells.toArray) rfl rfl (by rw [List.size_toArray, h54.out]; exact size_hop) (by simpa using HopD.cells_one) 0 H rfl (by rw [List.size_toArray, List.size_toArray, h54.out]; rfl) (fun w' H => ?_); replace H : At w0 (raw B h.1.cells.toArray 35 :: raw P p.cells.toArray 39 :: lrow 35 54 hopC (.slice (some ⟨g, off, none⟩) n0 q) Lc :: raw A (v8 body).toArray 24 :: F) w' := H; refine hK _ _ (Stop.go ?_)))
              refine Stop.un ?_
              go_wp2_with ((with_reducible refine wpList_op rfl ?_); intro _ hK; first
                | (refine dst_is 90 rfl ?_; refine wp_mid 29 _ rfl (b := B) (off := 2) rfl (v8 h.1.key) (by kernel_rfl) (by rw [v8_length, hkl.out]; exact size_key) (at_part H 0 rfl (by rw [v8_length, hkl.out]; exact f4.out)) (hK _ _ ?_))
                | (refine dst_is 91 rfl ?_; refine wp_mid 39 _ rfl (b := P) (off := 0) rfl p.cells (by kernel_rfl) (by rw [hpl.out]; exact size_pkt) (at_blk H 1 rfl) (hK _ _ ?_)))
              refine (peel_is G H hkl.out PO.out hpe.out rfl).mono ?_; rintro e' w' ⟨rfl, H⟩
              go_wp2_with ((with_reducible refine wpList_op rfl ?_); intro _ hK; first
                | (refine dst_is 14 rfl ?_; refine wp_alloc_sl 45 rfl info_slot H (fun S w' (H : At w0 (raw S SlotD.zero.cells.toArray 45 :: raw B h.1.cells.toArray 35 :: raw P p.cells.toArray 39 :: lrow 35 54 hopC (.slice (some ⟨g, off, none⟩) n0 q) Lc :: raw A (v8 body).toArray 24 :: F) w') _ => hK _ _ ?_))
                | (refine dst_is 15 rfl ?_; refine wp_alloc_sl 39 rfl info_pkt H (fun Q w' (H : At w0 (raw Q PktD.zero.cells.toArray 39 :: raw S SlotD.zero.cells.toArray 45 :: raw B h.1.cells.toArray 35 :: raw P p.cells.toArray 39 :: lrow 35 54 hopC (.slice (some ⟨g, off, none⟩) n0 q) Lc :: raw A (v8 body).toArray 24 :: F) w') _ => hK _ _ ?_))
                | (refine sto_is 14 rfl ?_; refine wp_store_row_sl 45 _ _ rfl (b := S) (cells := s.cells.toArray) rfl rfl (by rw [List.size_toArray, hsl.out]; exact size_slot) (by simpa using SlotD.cells_one) 1 H rfl (by rw [List.size_toArray, List.size_toArray, hsl.out]; rfl) (fun w' H => ?_); replace H : At w0 (raw Q PktD.zero.cells.toArray 39 :: raw S s.cells.toArray 45 :: raw B h.1.cells.toArray 35 :: raw P p.cells.toArray 39 :: lrow 35 54 hopC (.slice (some ⟨g, off, none⟩) n0 q) Lc :: raw A (v8 body).toArray 24 :: F) w' := H; refine hK _ _ ?_)
                | (refine sto_is 15 rfl ?_; refine wp_store_row_sl 39 _ _ rfl (b := Q) (cells := r.cells.toArray) rfl rfl (by rw [List.size_toArray, hrl.out]; exact size_pkt) (by simpa using PktD.cells_one) 0 H rfl (by rw [List.size_toArray, List.size_toArray, hrl.out]; rfl) (fun w' H => ?_); replace H : At w0 (raw Q r.cells.toArray 39 :: raw S s.cells.toArray 45 :: raw B h.1.cells.toArray 35 :: raw P p.cells.toArray 39 :: lrow 35 54 hopC (.slice (some ⟨g, off, none⟩) n0 q) Lc :: raw A (v8 body).toArray 24 :: F) w' := H; refine hK _ _ (Stop.go ?_)))
              refine Stop.un ?_
              go_wp2_with ((first | (with_reducible refine wpList_op rfl ?_) | (refine wpList_opif (by rfl) ?_)); intro _ hK; first
                | (refine dst_is 100 rfl ?_; refine wp_get 27 _ rfl rfl (by kernel_rfl) (at_raw H 3 rfl f1.out) (hK _ _ ?_))
                | (refine dst_is 102 rfl ?_; refine wp_get 27 _ rfl rfl (by kernel_rfl) (at_raw H 2 rfl (v := .int .u16 (h.1.who : Int)) rfl) (hK _ _ ?_))
                | (refine dst_is 107 rfl ?_; refine wp_get 30 _ rfl rfl (by kernel_rfl) (at_raw H 3 rfl f2.out) (hK _ _ ?_))
                | (refine dst_is 109 rfl ?_; refine wp_get 30 _ rfl rfl (by kernel_rfl) (at_raw H 2 rfl f5.out) (hK _ _ ?_))
                | (refine dst_is 114 rfl ?_; refine wp_mid 32 _ rfl (b := P) (off := 2) rfl (v8 h.1.nonce) (by kernel_rfl) (by rw [v8_length, hnl.out]; exact size_nonce) (at_part H 3 rfl (by rw [v8_length, hnl.out]; exact f3.out)) (hK _ _ ?_))
                | (refine dst_is 116 rfl ?_; refine wp_mid 32 _ rfl (b := B) (off := 35) rfl (v8 h.1.nonce) (by kernel_rfl) (by rw [v8_length, hnl.out]; exact size_nonce) (at_part H 2 rfl (by rw [v8_length, hnl.out]; exact f6.out)) (hK _ _ ?_))
                | (refine dst_is 117 rfl ?_; refine wp_run (neq_nonce hnl.out _ _ _ _ _ _ rfl rfl rfl) (hK _ _ ?_))
                | (refine dst_is 121 rfl ?_; refine wp_get 33 _ rfl rfl (by kernel_rfl) (at_raw H 1 rfl g7.out) (hK _ _ ?_))
                | (refine dst_is 123 rfl ?_; refine wp_get 33 _ rfl rfl (by kernel_rfl) (at_raw H 2 rfl f7.out) (hK _ _ ?_))
                | (refine dst_is 128 rfl ?_; refine wp_get 33 _ rfl rfl (by kernel_rfl) (at_raw H 1 rfl g8.out) (hK _ _ ?_))
                | (refine dst_is 130 rfl ?_; refine wp_get 33 _ rfl rfl (by kernel_rfl) (at_raw H 2 rfl f8.out) (hK _ _ ?_))
                | (refine dst_is 135 rfl ?_; refine wp_get 30 _ rfl rfl (by kernel_rfl) (at_raw H 1 rfl g9.out) (hK _ _ ?_))
                | (refine dst_is 137 rfl ?_; refine wp_get 30 _ rfl rfl (by kernel_rfl) (at_raw H 2 rfl f9.out) (hK _ _ ?_))
                | (refine dst_is 142 rfl ?_; refine wp_get 4 _ rfl rfl (by kernel_rfl) (at_raw H 1 rfl k1.out) (hK _ _ ?_)))
              refine wpM_begin [] ((At w0 (raw Q r.cells.toArray 39 :: raw S s.cells.toArray 45 :: raw B h.1.cells.toArray 35 :: raw P p.cells.toArray 39 :: lrow 35 54 hopC (.slice (some ⟨g, off, none⟩) n0 q) Lc :: raw A (v8 body).toArray 24 :: F))) [(0, 2), (1, 1), (2, 2), (3, 2), (4, 1), (5, 2), (6, 2), (7, 2), (8, 2), (9, 2), (10, 1), (11, 2), (12, 2), (13, 2), (14, 1), (15, 2), (16, 2), (17, 2), (18, 2), (19, 2), (20, 1), (21, 2), (22, 2), (23, 2), (24, 1), (25, 2), (26, 1), (27, 2), (28, 2), (29, 2), (30, 2)] rfl (by kernel_rfl) (by kernel_rfl) ((H.drew)) ?_
              intro ops hOps hS
              replace H := H.drew
              refine wpM_free hOps (v := ?vOp63) rfl (fun _ _ _ h => h) (yl rfl ?yOp63) ?_
              case yOp63 => (intro w hw; go_simp; first | done | rfl)
              simp only [Act.put, Act.eval, List.setIfInBounds_toArray, List.set_cons_zero, List.set_cons_succ, Array.getD_eq_getD_getElem?, List.getElem?_toArray, List.getElem?_cons_zero, List.getElem?_cons_succ, Option.getD_some]
              refine wpM_take hOps hS rfl (fun _ _ _ h => h) (yl_get rfl _ _ rfl rfl (by kernel_rfl) (fun w hw => at_raw hw 1 rfl k1.out)) ?_
              simp only [Act.put, Act.eval, List.setIfInBounds_toArray, List.set_cons_zero, List.set_cons_succ, Array.getD_eq_getD_getElem?, List.getElem?_toArray, List.getElem?_cons_zero, List.getElem?_cons_succ, Option.getD_some]
              refine wpM_free hOps rfl (fun _ _ _ h => h) (yl_move rfl _ rfl) ?_
              simp only [Act.put, Act.eval, List.setIfInBounds_toArray, List.set_cons_zero, List.set_cons_succ, Array.getD_eq_getD_getElem?, List.getElem?_toArray, List.getElem?_cons_zero, List.getElem?_cons_succ, Option.getD_some]
              refine wpM_free hOps (v := ?vOp70) rfl (fun _ _ _ h => h) (yl rfl ?yOp70) ?_
              case yOp70 => (intro w hw; go_simp; first | done | rfl)
              simp only [Act.put, Act.eval, List.setIfInBounds_toArray, List.set_cons_zero, List.set_cons_succ, Array.getD_eq_getD_getElem?, List.getElem?_toArray, List.getElem?_cons_zero, List.getElem?_cons_succ, Option.getD_some]
              refine wpM_take hOps hS rfl (fun _ _ _ h => h) (yl_get rfl _ _ rfl rfl (by kernel_rfl) (fun w hw => at_raw hw 1 rfl k2.out)) ?_
              simp only [Act.put, Act.eval, List.setIfInBounds_toArray, List.set_cons_zero, List.set_cons_succ, Array.getD_eq_getD_getElem?, List.getElem?_toArray, List.getElem?_cons_zero, List.getElem?_cons_succ, Option.getD_some]
              refine wpM_free hOps rfl (fun _ _ _ h => h) (yl_move rfl _ rfl) ?_
              simp only [Act.put, Act.eval, List.setIfInBounds_toArray, List.set_cons_zero, List.set_cons_succ, Array.getD_eq_getD_getElem?, List.getElem?_toArray, List.getElem?_cons_zero, List.getElem?_cons_succ, Option.getD_some]
              refine wpM_free hOps (v := ?vOp77) rfl (fun _ _ _ h => h) (yl rfl ?yOp77) ?_
              case yOp77 => (intro w hw; go_simp; first | done | rfl)
              simp only [Act.put, Act.eval, List.setIfInBounds_toArray, List.set_cons_zero, List.set_cons_succ, Array.getD_eq_getD_getElem?, List.getElem?_toArray, List.getElem?_cons_zero, List.getElem?_cons_succ, Option.getD_some]
              refine wpM_free hOps (v := ?vOp79) rfl (fun _ _ _ h => h) (yl rfl ?yOp79) ?_
              case yOp79 => (intro w hw; go_simp; first | done | rfl)
              simp only [Act.put, Act.eval, List.setIfInBounds_toArray, List.set_cons_zero, List.set_cons_succ, Array.getD_eq_getD_getElem?, List.getElem?_toArray, List.getElem?_cons_zero, List.getElem?_cons_succ, Option.getD_some]
              refine wpM_free hOps rfl (fun _ _ _ h => h) (yl_move rfl _ rfl) ?_
              simp only [Act.put, Act.eval, List.setIfInBounds_toArray, List.set_cons_zero, List.set_cons_succ, Array.getD_eq_getD_getElem?, List.getElem?_toArray, List.getElem?_cons_zero, List.getElem?_cons_succ, Option.getD_some]
              refine wpM_free hOps (v := ?vOp84) rfl (fun _ _ _ h => h) (yl rfl ?yOp84) ?_
              case yOp84 => (intro w hw; go_simp; first | done | rfl)
              simp only [Act.put, Act.eval, List.setIfInBounds_toArray, List.set_cons_zero, List.set_cons_succ, Array.getD_eq_getD_getElem?, List.getElem?_toArray, List.getElem?_cons_zero, List.getElem?_cons_succ, Option.getD_some]
              refine wpM_take hOps hS rfl (fun _ _ _ h => h) (yl_get rfl _ _ rfl rfl (by kernel_rfl) (fun w hw => at_raw hw 1 rfl k1.out)) ?_
              simp only [Act.put, Act.eval, List.setIfInBounds_toArray, List.set_cons_zero, List.set_cons_succ, Array.getD_eq_getD_getElem?, List.getElem?_toArray, List.getElem?_cons_zero, List.getElem?_cons_succ, Option.getD_some]
              refine wpM_free hOps (v := ?vOp88) rfl (fun _ _ _ h => h) (yl rfl ?yOp88) ?_
              case yOp88 => (intro w hw; go_simp; first | done | rfl)
              simp only [Act.put, Act.eval, List.setIfInBounds_toArray, List.set_cons_zero, List.set_cons_succ, Array.getD_eq_getD_getElem?, List.getElem?_toArray, List.getElem?_cons_zero, List.getElem?_cons_succ, Option.getD_some]
              refine wpM_free hOps rfl (fun _ _ _ h => h) (yl_move rfl _ rfl) ?_
              simp only [Act.put, Act.eval, List.setIfInBounds_toArray, List.set_cons_zero, List.set_cons_succ, Array.getD_eq_getD_getElem?, List.getElem?_toArray, List.getElem?_cons_zero, List.getElem?_cons_succ, Option.getD_some]
              refine wpM_free hOps rfl (fun _ _ _ h => h) (yn rfl) ?_
              simp only [Act.put, Act.eval, List.setIfInBounds_toArray, List.set_cons_zero, List.set_cons_succ, Array.getD_eq_getD_getElem?, List.getElem?_toArray, List.getElem?_cons_zero, List.getElem?_cons_succ, Option.getD_some]
              refine wpM_take hOps hS rfl (fun _ _ _ h => h) (yn rfl) ?_
              simp only [Act.put, Act.eval, List.setIfInBounds_toArray, List.set_cons_zero, List.set_cons_succ, Array.getD_eq_getD_getElem?, List.getElem?_toArray, List.getElem?_cons_zero, List.getElem?_cons_succ, Option.getD_some]
              refine wpM_free hOps rfl (fun _ _ _ h => h) (yn rfl) ?_
              simp only [Act.put, Act.eval, List.setIfInBounds_toArray, List.set_cons_zero, List.set_cons_succ, Array.getD_eq_getD_getElem?, List.getElem?_toArray, List.getElem?_cons_zero, List.getElem?_cons_succ, Option.getD_some]
              refine wpM_free hOps rfl (fun _ _ _ h => h) (yn rfl) ?_
              simp only [Act.put, Act.eval, List.setIfInBounds_toArray, List.set_cons_zero, List.set_cons_succ, Array.getD_eq_getD_getElem?, List.getElem?_toArray, List.getElem?_cons_zero, List.getElem?_cons_succ, Option.getD_some]
              refine wpM_free hOps rfl (fun _ _ _ h => h) (yn rfl) ?_
              simp only [Act.put, Act.eval, List.setIfInBounds_toArray, List.set_cons_zero, List.set_cons_succ, Array.getD_eq_getD_getElem?, List.getElem?_toArray, List.getElem?_cons_zero, List.getElem?_cons_succ, Option.getD_some]
              refine wpM_free hOps rfl (fun _ _ _ h => h) (yn rfl) ?_
              simp only [Act.put, Act.eval, List.setIfInBounds_toArray, List.set_cons_zero, List.set_cons_succ, Array.getD_eq_getD_getElem?, List.getElem?_toArray, List.getElem?_cons_zero, List.getElem?_cons_succ, Option.getD_some]
              refine wpM_free hOps rfl (fun _ _ _ h => h) (yn rfl) ?_
              simp only [Act.put, Act.eval, List.setIfInBounds_toArray, List.set_cons_zero, List.set_cons_succ, Array.getD_eq_getD_getElem?, List.getElem?_toArray, List.getElem?_cons_zero, List.getElem?_cons_succ, Option.getD_some]
              refine wpM_take hOps hS rfl (fun _ _ _ h => h) (yn rfl) ?_
              simp only [Act.put, Act.eval, List.setIfInBounds_toArray, List.set_cons_zero, List.set_cons_succ, Array.getD_eq_getD_getElem?, List.getElem?_toArray, List.getElem?_cons_zero, List.getElem?_cons_succ, Option.getD_some]
              refine wpM_free hOps rfl (fun _ _ _ h => h) (yn rfl) ?_
              simp only [Act.put, Act.eval, List.setIfInBounds_toArray, List.set_cons_zero, List.set_cons_succ, Array.getD_eq_getD_getElem?, List.getElem?_toArray, List.getElem?_cons_zero, List.getElem?_cons_succ, Option.getD_some]
              refine wpM_free hOps rfl (fun _ _ _ h => h) (yn rfl) ?_
              simp only [Act.put, Act.eval, List.setIfInBounds_toArray, List.set_cons_zero, List.set_cons_succ, Array.getD_eq_getD_getElem?, List.getElem?_toArray, List.getElem?_cons_zero, List.getElem?_cons_succ, Option.getD_some]
              refine wpM_free hOps rfl (fun _ _ _ h => h) (yn rfl) ?_
              simp only [Act.put, Act.eval, List.setIfInBounds_toArray, List.set_cons_zero, List.set_cons_succ, Array.getD_eq_getD_getElem?, List.getElem?_toArray, List.getElem?_cons_zero, List.getElem?_cons_succ, Option.getD_some]
              refine wpM_take hOps hS rfl (fun _ _ _ h => h) (yn rfl) ?_
              simp only [Act.put, Act.eval, List.setIfInBounds_toArray, List.set_cons_zero, List.set_cons_succ, Array.getD_eq_getD_getElem?, List.getElem?_toArray, List.getElem?_cons_zero, List.getElem?_cons_succ, Option.getD_some]
              refine wpM_free hOps rfl (fun _ _ _ h => h) (yn rfl) ?_
              simp only [Act.put, Act.eval, List.setIfInBounds_toArray, List.set_cons_zero, List.set_cons_succ, Array.getD_eq_getD_getElem?, List.getElem?_toArray, List.getElem?_cons_zero, List.getElem?_cons_succ, Option.getD_some]
              refine wpM_take hOps hS rfl (fun _ _ _ h => h) (yn rfl) ?_
              simp only [Act.put, Act.eval, List.setIfInBounds_toArray, List.set_cons_zero, List.set_cons_succ, Array.getD_eq_getD_getElem?, List.getElem?_toArray, List.getElem?_cons_zero, List.getElem?_cons_succ, Option.getD_some]
              refine wpM_free hOps rfl (fun _ _ _ h => h) (yn rfl) ?_
              simp only [Act.put, Act.eval, List.setIfInBounds_toArray, List.set_cons_zero, List.set_cons_succ, Array.getD_eq_getD_getElem?, List.getElem?_toArray, List.getElem?_cons_zero, List.getElem?_cons_succ, Option.getD_some]
              refine wpM_free hOps rfl (fun _ _ _ h => h) (yn rfl) ?_
              simp only [Act.put, Act.eval, List.setIfInBounds_toArray, List.set_cons_zero, List.set_cons_succ, Array.getD_eq_getD_getElem?, List.getElem?_toArray, List.getElem?_cons_zero, List.getElem?_cons_succ, Option.getD_some]
              refine wpM_free hOps (v := ?vOp125) rfl (fun _ _ _ h => h) (yl rfl ?yOp125) ?_
              case yOp125 => (intro w hw; go_simp; first | done | rfl)
              simp only [Act.put, Act.eval, List.setIfInBounds_toArray, List.set_cons_zero, List.set_cons_succ, Array.getD_eq_getD_getElem?, List.getElem?_toArray, List.getElem?_cons_zero, List.getElem?_cons_succ, Option.getD_some]
              refine wpM_free hOps (v := ?vOp127) rfl (fun _ _ _ h => h) (yl rfl ?yOp127) ?_
              case yOp127 => (intro w hw; go_simp; first | done | rfl)
              simp only [Act.put, Act.eval, List.setIfInBounds_toArray, List.set_cons_zero, List.set_cons_succ, Array.getD_eq_getD_getElem?, List.getElem?_toArray, List.getElem?_cons_zero, List.getElem?_cons_succ, Option.getD_some]
              refine wpM_end ?_
              clear hOps hS ops
              go_wp2_with ((with_reducible refine wpList_op rfl ?_); intro _ hK; first
                | (refine dst_is 181 rfl ?_; refine wp_mid 39 _ rfl (b := Q) (off := 0) rfl r.cells (by kernel_rfl) (by rw [hrl.out]; exact size_pkt) (at_blk H 0 rfl) (hK _ _ ?_))
                | (refine sto_is 10 rfl ?_; refine wp_store_row_sl 39 _ _ rfl (b := P) (cells := r.cells.toArray) rfl rfl (by rw [List.size_toArray, hrl.out]; exact size_pkt) (by simpa using PktD.cells_one) 3 H rfl (by rw [List.size_toArray, List.size_toArray, hrl.out]; exact hpl.out) (fun w' H => ?_); replace H : At w0 (raw P r.cells.toArray 39 :: lrow 35 54 hopC (.slice (some ⟨g, off, none⟩) n0 q) Lc :: raw A (v8 body).toArray 24 :: F) w' := H.maskR [false, false, false]; refine hK _ _ ?_))
              first
                | (refine ⟨?_, ?measure⟩; iterate 60 (try apply Exists.intro); refine ⟨?rel, rfl⟩)
                | refine ⟨?rel, ?measure⟩
              case rel => exact ⟨d + 1, r, by omega, by go_num, hinv.out, H⟩
              case measure => simp [intOf]; omega
            · have hn1 := (List.getElem?_eq_some_iff.1 e1).1
              obtain ⟨k, hk⟩ : ∃ k, k + 1 = n0 := ⟨n0 - 1, by omega⟩
              have hd1 : (n0 : Int) - 1 = (k : Int) := by omega
              have hd2 : IntKind.i64.wrap (k : Int) = (k : Int) := by rw [IntKind.wrap_i64]; have := hm5.out; omega
              have hd3 : ¬ (d : Int) = (k : Int) := by have := hl.out; omega
              have hd4 : IntKind.i64.wrap ((d : Int) + 1) = (d : Int) + 1 := by rw [IntKind.wrap_i64]; have := hm5.out; omega
              have hd5 : (d : Int) + 1 < (n0 : Int) := by have := hl.out; omega
              have HN := Lib.hid e1
              have k1 := Lib.hid (show s.cells[0]? = some (.bool false) by rw [← e2]; rfl)
              have k2 := Lib.hid (show s.cells[1]? = some (.int .u16 (n.1.addr : Int)) by rw [← e3]; rfl)
              have k3 := Lib.hid (show (hopC n)[0]? = some (.int .u16 (n.1.addr : Int)) from rfl)
              have k4 := Lib.hid (SlotD.cells_mac so.out.nonce so.out.mac)
              have k5 := Lib.hid (show (r.cells.drop 18).take 16 = v8 s.mac by rw [e4]; exact PktD.part_mac hinv.out.ok)
              clear e1 e2 e3 e4 hn1 hk
              go_wp2_with ((with_reducible refine wpList_op rfl ?_); intro _ hK; first
                | (refine dst_is 87 rfl ?_; refine wp_mid 35 _ rfl rfl h.1.cells (by kernel_rfl) (by rw [h54.out]; exact size_hop) (elem_of (c := hopC) (xs := Lc) (x := h) el_hop hl.out H 1 rfl HH.out) (hK _ _ ?_))
                | (refine dst_is 13 rfl ?_; refine wp_alloc_sl 35 rfl info_hop H (fun B w' (H : At w0 (raw B hop0.cells.toArray 35 :: raw P p.cells.toArray 39 :: lrow 35 54 hopC (.slice (some ⟨g, off, none⟩) n0 q) Lc :: raw A (v8 body).toArray 24 :: F) w') _ => hK _ _ ?_))
                | (refine sto_is 13 rfl ?_; refine wp_store_row_sl 35 _ _ rfl (b := B) (cells := h.1.cells.toArray) rfl rfl (by rw [List.size_toArray, h54.out]; exact size_hop) (by simpa using HopD.cells_one) 0 H rfl (by rw [List.size_toArray, List.size_toArray, h54.out]; rfl) (fun w' H => ?_); replace H : At w0 (raw B h.1.cells.toArray 35 :: raw P p.cells.toArray 39 :: lrow 35 54 hopC (.slice (some ⟨g, off, none⟩) n0 q) Lc :: raw A (v8 body).toArray 24 :: F) w' := H; refine hK _ _ (Stop.go ?_)))
              refine Stop.un ?_
              go_wp2_with ((with_reducible refine wpList_op rfl ?_); intro _ hK; first
                | (refine dst_is 90 rfl ?_; refine wp_mid 29 _ rfl (b := B) (off := 2) rfl (v8 h.1.key) (by kernel_rfl) (by rw [v8_length, hkl.out]; exact size_key) (at_part H 0 rfl (by rw [v8_length, hkl.out]; exact f4.out)) (hK _ _ ?_))
                | (refine dst_is 91 rfl ?_; refine wp_mid 39 _ rfl (b := P) (off := 0) rfl p.cells (by kernel_rfl) (by rw [hpl.out]; exact size_pkt) (at_blk H 1 rfl) (hK _ _ ?_)))
              refine (peel_is G H hkl.out PO.out hpe.out rfl).mono ?_; rintro e' w' ⟨rfl, H⟩
              go_wp2_with ((with_reducible refine wpList_op rfl ?_); intro _ hK; first
                | (refine dst_is 14 rfl ?_; refine wp_alloc_sl 45 rfl info_slot H (fun S w' (H : At w0 (raw S SlotD.zero.cells.toArray 45 :: raw B h.1.cells.toArray 35 :: raw P p.cells.toArray 39 :: lrow 35 54 hopC (.slice (some ⟨g, off, none⟩) n0 q) Lc :: raw A (v8 body).toArray 24 :: F) w') _ => hK _ _ ?_))
                | (refine dst_is 15 rfl ?_; refine wp_alloc_sl 39 rfl info_pkt H (fun Q w' (H : At w0 (raw Q PktD.zero.cells.toArray 39 :: raw S SlotD.zero.cells.toArray 45 :: raw B h.1.cells.toArray 35 :: raw P p.cells.toArray 39 :: lrow 35 54 hopC (.slice (some ⟨g, off, none⟩) n0 q) Lc :: raw A (v8 body).toArray 24 :: F) w') _ => hK _ _ ?_))
                | (refine sto_is 14 rfl ?_; refine wp_store_row_sl 45 _ _ rfl (b := S) (cells := s.cells.toArray) rfl rfl (by rw [List.size_toArray, hsl.out]; exact size_slot) (by simpa using SlotD.cells_one) 1 H rfl (by rw [List.size_toArray, List.size_toArray, hsl.out]; rfl) (fun w' H => ?_); replace H : At w0 (raw Q PktD.zero.cells.toArray 39 :: raw S s.cells.toArray 45 :: raw B h.1.cells.toArray 35 :: raw P p.cells.toArray 39 :: lrow 35 54 hopC (.slice (some ⟨g, off, none⟩) n0 q) Lc :: raw A (v8 body).toArray 24 :: F) w' := H; refine hK _ _ ?_)
                | (refine sto_is 15 rfl ?_; refine wp_store_row_sl 39 _ _ rfl (b := Q) (cells := r.cells.toArray) rfl rfl (by rw [List.size_toArray, hrl.out]; exact size_pkt) (by simpa using PktD.cells_one) 0 H rfl (by rw [List.size_toArray, List.size_toArray, hrl.out]; rfl) (fun w' H => ?_); replace H : At w0 (raw Q r.cells.toArray 39 :: raw S s.cells.toArray 45 :: raw B h.1.cells.toArray 35 :: raw P p.cells.toArray 39 :: lrow 35 54 hopC (.slice (some ⟨g, off, none⟩) n0 q) Lc :: raw A (v8 body).toArray 24 :: F) w' := H; refine hK _ _ (Stop.go ?_)))
              refine Stop.un ?_
              go_wp2_with ((first | (with_reducible refine wpList_op rfl ?_) | (refine wpList_opif (by rfl) ?_)); intro _ hK; first
                | (refine dst_is 100 rfl ?_; refine wp_get 27 _ rfl rfl (by kernel_rfl) (at_raw H 3 rfl f1.out) (hK _ _ ?_))
                | (refine dst_is 102 rfl ?_; refine wp_get 27 _ rfl rfl (by kernel_rfl) (at_raw H 2 rfl (v := .int .u16 (h.1.who : Int)) rfl) (hK _ _ ?_))
                | (refine dst_is 107 rfl ?_; refine wp_get 30 _ rfl rfl (by kernel_rfl) (at_raw H 3 rfl f2.out) (hK _ _ ?_))
                | (refine dst_is 109 rfl ?_; refine wp_get 30 _ rfl rfl (by kernel_rfl) (at_raw H 2 rfl f5.out) (hK _ _ ?_))
                | (refine dst_is 114 rfl ?_; refine wp_mid 32 _ rfl (b := P) (off := 2) rfl (v8 h.1.nonce) (by kernel_rfl) (by rw [v8_length, hnl.out]; exact size_nonce) (at_part H 3 rfl (by rw [v8_length, hnl.out]; exact f3.out)) (hK _ _ ?_))
                | (refine dst_is 116 rfl ?_; refine wp_mid 32 _ rfl (b := B) (off := 35) rfl (v8 h.1.nonce) (by kernel_rfl) (by rw [v8_length, hnl.out]; exact size_nonce) (at_part H 2 rfl (by rw [v8_length, hnl.out]; exact f6.out)) (hK _ _ ?_))
                | (refine dst_is 117 rfl ?_; refine wp_run (neq_nonce hnl.out _ _ _ _ _ _ rfl rfl rfl) (hK _ _ ?_))
                | (refine dst_is 121 rfl ?_; refine wp_get 33 _ rfl rfl (by kernel_rfl) (at_raw H 1 rfl g7.out) (hK _ _ ?_))
                | (refine dst_is 123 rfl ?_; refine wp_get 33 _ rfl rfl (by kernel_rfl) (at_raw H 2 rfl f7.out) (hK _ _ ?_))
                | (refine dst_is 128 rfl ?_; refine wp_get 33 _ rfl rfl (by kernel_rfl) (at_raw H 1 rfl g8.out) (hK _ _ ?_))
                | (refine dst_is 130 rfl ?_; refine wp_get 33 _ rfl rfl (by kernel_rfl) (at_raw H 2 rfl f8.out) (hK _ _ ?_))
                | (refine dst_is 135 rfl ?_; refine wp_get 30 _ rfl rfl (by kernel_rfl) (at_raw H 1 rfl g9.out) (hK _ _ ?_))
                | (refine dst_is 137 rfl ?_; refine wp_get 30 _ rfl rfl (by kernel_rfl) (at_raw H 2 rfl f9.out) (hK _ _ ?_))
                | (refine dst_is 142 rfl ?_; refine wp_get 4 _ rfl rfl (by kernel_rfl) (at_raw H 1 rfl k1.out) (hK _ _ ?_)))
              refine wpM_begin [] ((At w0 (raw Q r.cells.toArray 39 :: raw S s.cells.toArray 45 :: raw B h.1.cells.toArray 35 :: raw P p.cells.toArray 39 :: lrow 35 54 hopC (.slice (some ⟨g, off, none⟩) n0 q) Lc :: raw A (v8 body).toArray 24 :: F))) [(0, 2), (1, 1), (2, 2), (3, 2), (4, 1), (5, 2), (6, 2), (7, 2), (8, 2), (9, 2), (10, 1), (11, 2), (12, 2), (13, 2), (14, 1), (15, 2), (16, 2), (17, 2), (18, 2), (19, 2), (20, 1), (21, 2), (22, 2), (23, 2), (24, 1), (25, 2), (26, 1), (27, 2), (28, 2), (29, 2), (30, 2)] rfl (by kernel_rfl) (by kernel_rfl) ((H.drew)) ?_
              intro ops hOps hS
              replace H := H.drew
              refine wpM_free hOps (v := ?vOp131) rfl (fun _ _ _ h => h) (yl rfl ?yOp131) ?_
              case yOp131 => (intro w hw; go_simp; first | done | rfl)
              simp only [Act.put, Act.eval, List.setIfInBounds_toArray, List.set_cons_zero, List.set_cons_succ, Array.getD_eq_getD_getElem?, List.getElem?_toArray, List.getElem?_cons_zero, List.getElem?_cons_succ, Option.getD_some]
              refine wpM_take hOps hS rfl (fun _ _ _ h => h) (yl_get rfl _ _ rfl rfl (by kernel_rfl) (fun w hw => at_raw hw 1 rfl k1.out)) ?_
              simp only [Act.put, Act.eval, List.setIfInBounds_toArray, List.set_cons_zero, List.set_cons_succ, Array.getD_eq_getD_getElem?, List.getElem?_toArray, List.getElem?_cons_zero, List.getElem?_cons_succ, Option.getD_some]
              refine wpM_free hOps rfl (fun _ _ _ h => h) (yl_move rfl _ rfl) ?_
              simp only [Act.put, Act.eval, List.setIfInBounds_toArray, List.set_cons_zero, List.set_cons_succ, Array.getD_eq_getD_getElem?, List.getElem?_toArray, List.getElem?_cons_zero, List.getElem?_cons_succ, Option.getD_some]
              refine wpM_free hOps rfl (fun _ _ _ h => h) (yn rfl) ?_
              simp only [Act.put, Act.eval, List.setIfInBounds_toArray, List.set_cons_zero, List.set_cons_succ, Array.getD_eq_getD_getElem?, List.getElem?_toArray, List.getElem?_cons_zero, List.getElem?_cons_succ, Option.getD_some]
              refine wpM_take hOps hS rfl (fun _ _ _ h => h) (yn rfl) ?_
              simp only [Act.put, Act.eval, List.setIfInBounds_toArray, List.set_cons_zero, List.set_cons_succ, Array.getD_eq_getD_getElem?, List.getElem?_toArray, List.getElem?_cons_zero, List.getElem?_cons_succ, Option.getD_some]
              refine wpM_free hOps rfl (fun _ _ _ h => h) (yn rfl) ?_
              simp only [Act.put, Act.eval, List.setIfInBounds_toArray, List.set_cons_zero, List.set_cons_succ, Array.getD_eq_getD_getElem?, List.getElem?_toArray, List.getElem?_cons_zero, List.getElem?_cons_succ, Option.getD_some]
              refine wpM_free hOps rfl (fun _ _ _ h => h) (yn rfl) ?_
              simp only [Act.put, Act.eval, List.setIfInBounds_toArray, List.set_cons_zero, List.set_cons_succ, Array.getD_eq_getD_getElem?, List.getElem?_toArray, List.getElem?_cons_zero, List.getElem?_cons_succ, Option.getD_some]
              refine wpM_free hOps (v := ?vOp146) rfl (fun _ _ _ h => h) (yl rfl ?yOp146) ?_
              case yOp146 => (intro w hw; go_simp; first | done | rfl)
              simp only [Act.put, Act.eval, List.setIfInBounds_toArray, List.set_cons_zero, List.set_cons_succ, Array.getD_eq_getD_getElem?, List.getElem?_toArray, List.getElem?_cons_zero, List.getElem?_cons_succ, Option.getD_some]
              refine wpM_free hOps rfl (fun _ _ _ h => h) (yl_move rfl _ rfl) ?_
              simp only [Act.put, Act.eval, List.setIfInBounds_toArray, List.set_cons_zero, List.set_cons_succ, Array.getD_eq_getD_getElem?, List.getElem?_toArray, List.getElem?_cons_zero, List.getElem?_cons_succ, Option.getD_some]
              refine wpM_free hOps (v := ?vOp151) rfl (fun _ _ _ h => h) (yl rfl ?yOp151) ?_
              case yOp151 => (intro w hw; go_simp; first | done | rfl)
              simp only [Act.put, Act.eval, List.setIfInBounds_toArray, List.set_cons_zero, List.set_cons_succ, Array.getD_eq_getD_getElem?, List.getElem?_toArray, List.getElem?_cons_zero, List.getElem?_cons_succ, Option.getD_some]
              refine wpM_take hOps hS rfl (fun _ _ _ h => h) (yl_get rfl _ _ rfl rfl (by kernel_rfl) (fun w hw => at_raw hw 1 rfl k1.out)) ?_
              simp only [Act.put, Act.eval, List.setIfInBounds_toArray, List.set_cons_zero, List.set_cons_succ, Array.getD_eq_getD_getElem?, List.getElem?_toArray, List.getElem?_cons_zero, List.getElem?_cons_succ, Option.getD_some]
              refine wpM_free hOps (v := ?vOp155) rfl (fun _ _ _ h => h) (yl rfl ?yOp155) ?_
              case yOp155 => (intro w hw; go_simp; first | done | rfl)
              simp only [Act.put, Act.eval, List.setIfInBounds_toArray, List.set_cons_zero, List.set_cons_succ, Array.getD_eq_getD_getElem?, List.getElem?_toArray, List.getElem?_cons_zero, List.getElem?_cons_succ, Option.getD_some]
              refine wpM_free hOps rfl (fun _ _ _ h => h) (yl_move rfl _ rfl) ?_
              simp only [Act.put, Act.eval, List.setIfInBounds_toArray, List.set_cons_zero, List.set_cons_succ, Array.getD_eq_getD_getElem?, List.getElem?_toArray, List.getElem?_cons_zero, List.getElem?_cons_succ, Option.getD_some]
              refine wpM_free hOps (v := ?vOp160) rfl (fun _ _ _ h => h) (yl rfl ?yOp160) ?_
              case yOp160 => (intro w hw; go_simp; first | done | rfl)
              simp only [Act.put, Act.eval, List.setIfInBounds_toArray, List.set_cons_zero, List.set_cons_succ, Array.getD_eq_getD_getElem?, List.getElem?_toArray, List.getElem?_cons_zero, List.getElem?_cons_succ, Option.getD_some]
              refine wpM_take hOps hS rfl (fun _ _ _ h => h) (yl_get rfl _ _ rfl rfl (by kernel_rfl) (fun w hw => at_raw hw 1 rfl k2.out)) ?_
              simp only [Act.put, Act.eval, List.setIfInBounds_toArray, List.set_cons_zero, List.set_cons_succ, Array.getD_eq_getD_getElem?, List.getElem?_toArray, List.getElem?_cons_zero, List.getElem?_cons_succ, Option.getD_some]
              refine wpM_free hOps rfl (fun _ _ _ h => h) (yl_move rfl _ rfl) ?_
              simp only [Act.put, Act.eval, List.setIfInBounds_toArray, List.set_cons_zero, List.set_cons_succ, Array.getD_eq_getD_getElem?, List.getElem?_toArray, List.getElem?_cons_zero, List.getElem?_cons_succ, Option.getD_some]
              refine wpM_free hOps rfl (fun _ _ _ h => h) (yl_move rfl _ rfl) ?_
              simp only [Act.put, Act.eval, List.setIfInBounds_toArray, List.set_cons_zero, List.set_cons_succ, Array.getD_eq_getD_getElem?, List.getElem?_toArray, List.getElem?_cons_zero, List.getElem?_cons_succ, Option.getD_some]
              refine wpM_free hOps (v := ?vOp170) rfl (fun _ _ _ h => h) (yl rfl ?yOp170) ?_
              case yOp170 => (intro w hw; go_simp; first | done | rfl)
              simp only [Act.put, Act.eval, List.setIfInBounds_toArray, List.set_cons_zero, List.set_cons_succ, Array.getD_eq_getD_getElem?, List.getElem?_toArray, List.getElem?_cons_zero, List.getElem?_cons_succ, Option.getD_some]
              refine wpM_free hOps (v := ?vOp172) rfl (fun _ _ _ h => h) (yl rfl ?yOp172) ?_
              case yOp172 => (intro w hw; go_simp; first | done | rfl)
              simp only [Act.put, Act.eval, List.setIfInBounds_toArray, List.set_cons_zero, List.set_cons_succ, Array.getD_eq_getD_getElem?, List.getElem?_toArray, List.getElem?_cons_zero, List.getElem?_cons_succ, Option.getD_some]
              refine wpM_free hOps (v := ?vOp174) rfl (fun _ _ _ h => h) (yl rfl ?yOp174) ?_
              case yOp174 => (intro w hw; go_simp; first | done | rfl)
              simp only [Act.put, Act.eval, List.setIfInBounds_toArray, List.set_cons_zero, List.set_cons_succ, Array.getD_eq_getD_getElem?, List.getElem?_toArray, List.getElem?_cons_zero, List.getElem?_cons_succ, Option.getD_some]
              refine wpM_take hOps hS rfl (fun _ _ _ h => h) (yl_get rfl _ _ rfl rfl (by kernel_rfl) (fun w hw => (elem_of (c := hopC) (xs := Lc) (x := n) el_hop hl.out hw 4 rfl HN.out) 0 _ k3.out)) ?_
              simp only [Act.put, Act.eval, List.setIfInBounds_toArray, List.set_cons_zero, List.set_cons_succ, Array.getD_eq_getD_getElem?, List.getElem?_toArray, List.getElem?_cons_zero, List.getElem?_cons_succ, Option.getD_some]
              refine wpM_free hOps (v := ?vOp178) rfl (fun _ _ _ h => h) (yl rfl ?yOp178) ?_
              case yOp178 => (intro w hw; go_simp; first | done | rfl)
              simp only [Act.put, Act.eval, List.setIfInBounds_toArray, List.set_cons_zero, List.set_cons_succ, Array.getD_eq_getD_getElem?, List.getElem?_toArray, List.getElem?_cons_zero, List.getElem?_cons_succ, Option.getD_some]
              refine wpM_free hOps rfl (fun _ _ _ h => h) (yl_move rfl _ rfl) ?_
              simp only [Act.put, Act.eval, List.setIfInBounds_toArray, List.set_cons_zero, List.set_cons_succ, Array.getD_eq_getD_getElem?, List.getElem?_toArray, List.getElem?_cons_zero, List.getElem?_cons_succ, Option.getD_some]
              refine wpM_free hOps (v := ?vOp183) rfl (fun _ _ _ h => h) (yl rfl ?yOp183) ?_
              case yOp183 => (intro w hw; go_simp; first | done | rfl)
              simp only [Act.put, Act.eval, List.setIfInBounds_toArray, List.set_cons_zero, List.set_cons_succ, Array.getD_eq_getD_getElem?, List.getElem?_toArray, List.getElem?_cons_zero, List.getElem?_cons_succ, Option.getD_some]
              refine wpM_take hOps hS rfl (fun _ _ _ h => h) (yl_mid rfl 36 _ rfl (b := S) (off := 21) rfl (v8 s.mac) (by kernel_rfl) (by rw [v8_length, hml.out]; exact size_mact) (fun w hw => at_part hw 1 rfl (by rw [v8_length, hml.out]; exact k4.out))) ?_
              simp only [Act.put, Act.eval, List.setIfInBounds_toArray, List.set_cons_zero, List.set_cons_succ, Array.getD_eq_getD_getElem?, List.getElem?_toArray, List.getElem?_cons_zero, List.getElem?_cons_succ, Option.getD_some]
              refine wpM_free hOps (v := ?vOp187) rfl (fun _ _ _ h => h) (yl rfl ?yOp187) ?_
              case yOp187 => (intro w hw; go_simp; first | done | rfl)
              simp only [Act.put, Act.eval, List.setIfInBounds_toArray, List.set_cons_zero, List.set_cons_succ, Array.getD_eq_getD_getElem?, List.getElem?_toArray, List.getElem?_cons_zero, List.getElem?_cons_succ, Option.getD_some]
              refine wpM_take hOps hS rfl (fun _ _ _ h => h) (yl_mid rfl 36 _ rfl (b := Q) (off := 18) rfl (v8 s.mac) (by kernel_rfl) (by rw [v8_length, hml.out]; exact size_mact) (fun w hw => at_part hw 0 rfl (by rw [v8_length, hml.out]; exact k5.out))) ?_
              simp only [Act.put, Act.eval, List.setIfInBounds_toArray, List.set_cons_zero, List.set_cons_succ, Array.getD_eq_getD_getElem?, List.getElem?_toArray, List.getElem?_cons_zero, List.getElem?_cons_succ, Option.getD_some]
              refine wpM_free hOps rfl (fun _ _ _ h => h) (yl rfl (fun w _ => neq_mac hml.out w _ _ _ _ _ rfl rfl rfl)) ?_
              simp only [Act.put, Act.eval, List.setIfInBounds_toArray, List.set_cons_zero, List.set_cons_succ, Array.getD_eq_getD_getElem?, List.getElem?_toArray, List.getElem?_cons_zero, List.getElem?_cons_succ, Option.getD_some]
              refine wpM_free hOps (v := ?vOp193) rfl (fun _ _ _ h => h) (yl rfl ?yOp193) ?_
              case yOp193 => (intro w hw; go_simp; first | done | rfl)
              simp only [Act.put, Act.eval, List.setIfInBounds_toArray, List.set_cons_zero, List.set_cons_succ, Array.getD_eq_getD_getElem?, List.getElem?_toArray, List.getElem?_cons_zero, List.getElem?_cons_succ, Option.getD_some]
              refine wpM_free hOps (v := ?vOp195) rfl (fun _ _ _ h => h) (yl rfl ?yOp195) ?_
              case yOp195 => (intro w hw; go_simp; first | done | rfl)
              simp only [Act.put, Act.eval, List.setIfInBounds_toArray, List.set_cons_zero, List.set_cons_succ, Array.getD_eq_getD_getElem?, List.getElem?_toArray, List.getElem?_cons_zero, List.getElem?_cons_succ, Option.getD_some]
              refine wpM_free hOps (v := ?vOp197) rfl (fun _ _ _ h => h) (yl rfl ?yOp197) ?_
              case yOp197 => (intro w hw; go_simp; first | done | rfl)
              simp only [Act.put, Act.eval, List.setIfInBounds_toArray, List.set_cons_zero, List.set_cons_succ, Array.getD_eq_getD_getElem?, List.getElem?_toArray, List.getElem?_cons_zero, List.getElem?_cons_succ, Option.getD_some]
              refine wpM_end ?_
              clear hOps hS ops
              go_wp2_with ((with_reducible refine wpList_op rfl ?_); intro _ hK; first
                | (refine dst_is 181 rfl ?_; refine wp_mid 39 _ rfl (b := Q) (off := 0) rfl r.cells (by kernel_rfl) (by rw [hrl.out]; exact size_pkt) (at_blk H 0 rfl) (hK _ _ ?_))
                | (refine sto_is 10 rfl ?_; refine wp_store_row_sl 39 _ _ rfl (b := P) (cells := r.cells.toArray) rfl rfl (by rw [List.size_toArray, hrl.out]; exact size_pkt) (by simpa using PktD.cells_one) 3 H rfl (by rw [List.size_toArray, List.size_toArray, hrl.out]; exact hpl.out) (fun w' H => ?_); replace H : At w0 (raw P r.cells.toArray 39 :: lrow 35 54 hopC (.slice (some ⟨g, off, none⟩) n0 q) Lc :: raw A (v8 body).toArray 24 :: F) w' := H.maskR [false, false, false]; refine hK _ _ ?_))
              first
                | (refine ⟨?_, ?measure⟩; iterate 60 (try apply Exists.intro); refine ⟨?rel, rfl⟩)
                | refine ⟨?rel, ?measure⟩
              case rel => exact ⟨d + 1, r, by omega, by go_num, hinv.out, H⟩
              case measure => simp [intOf]; omega
          · obtain rfl : d = n0 := by omega
            have hbo := Lib.hid (show (p.cells.drop 354).take 256 = v8 body by rw [PktD.part_body I.out.ok, I.out.last hl.out])
            go_wp2_with ((first | (with_reducible refine wpList_op rfl ?_) | (refine wpList_opif (by rfl) ?_)); intro _ hK; first
              | (refine dst_is 185 rfl ?_; refine wp_mid 24 _ rfl (b := P) (off := 354) rfl (v8 body) (by kernel_rfl) (by rw [v8_length, HB.out]; exact size_a256) (at_part H 0 rfl (by rw [v8_length, HB.out]; exact hbo.out)) (hK _ _ ?_))
              | (refine dst_is 186 rfl ?_; refine wp_lda 24 _ rfl (b := A) (bs := body) rfl (by kernel_rfl) (by rw [HB.out]; exact size_a256) 2 H rfl (hK _ _ ?_))
              | (refine dst_is 187 rfl ?_; refine wp_run (eql_same HB.out _ _ _ _ _ _ rfl rfl rfl) (hK _ _ ?_)))
            exact ⟨rfl, _, results_tmp rfl _ _ _, rfl, H.maskR [false, false, false]⟩
theorem onionBack_walk {W : World} {v : Value} {hops : List HopO} {a : Int} {body : List (BitVec 8)} (G : Glob W) (hv : SeeL 54 hopC W [] v hops) (ha : (Lit.int .u16 a).wf = true) (hb : body.length = 256) : Calls Tryd.prog 3 #[v, .int .u16 a, .agg (v8 body).toArray] W fun e w' => e = .returned (.bool true) ∧ Below W.heap.size W w' := by
  obtain ⟨box, hbox, rfl⟩ := u16_nat ha
  exact (onionBack_c G (At.start W) hv hbox hb).mono fun _ _ h => ⟨h.1, h.2.below⟩
theorem onionBack_own : ownKnob Tryd.prog.godebug = none := by kernel_rfl
theorem onionBack_laidout : laidOutB Tryd.prog = true := by kernel_rfl
set_option maxRecDepth 100000 in
theorem onionBack_contract (H : Type) (enc : TypeId × Value → H) (W : World) (base : Nat) (args : Array Value) (ds gs : List (DataW H)) (before : List MemPlace)
    (hval : ∀ (j : Nat) t v, Tryd.f3.params[j]? = some t → args[j]? = some v → Value.okWide Tryd.prog W .any base t v)
    (hW : DataW.Whole enc Tryd.prog Tryd.f3.params.toList Rows.onionBackSpec.vars false W args.toList ds gs before) (hL : laidMetH Tryd.prog Rows.onionBackRow.laid W) :
    Calls Tryd.prog 3 args W fun e W' => ∃ v, e = .returned v ∧ Rows.onionBackSpec.post enc Tryd.prog Tryd.f3 false true false false W args v W' := by
  have G : Glob W := glob_of_laid hL
  have hW' := hW
  obtain ⟨p, q, hA0, hV, rfl, hfz, hnd⟩ := hW
  have hA : DataW.TrodAll enc Tryd.prog W 0 (fun _ => true) true Tryd.f3.params.toList args.toList ds p := hA0
  rw [Tryd.params3] at hA hval
  obtain ⟨v0, vs0, d0, ds0, p0, q0, hargs, rfl, rfl, h0, r0⟩ := trodAll_cons hA
  obtain ⟨v1, vs1, d1, ds1, p1, q1, rfl, rfl, rfl, h1, r1⟩ := trodAll_cons r0
  obtain ⟨v2, vs2, d2, ds2, p2, q2, rfl, rfl, rfl, h2, r2⟩ := trodAll_cons r1
  obtain ⟨rfl, rfl, rfl⟩ := trodAll_nil r2
  obtain rfl : args = #[v0, v1, v2] := by cases args; simp_all
  obtain ⟨rfl, rfl⟩ := trodVars_none hV
  have k0 := h0
  have lt0 : ∀ x ∈ p0, x.block < W.heap.size := by obtain ⟨m, hm⟩ := k0; exact DataW.trod_lt m _ _ _ hm
  have k1 := h1
  have lt1 : ∀ x ∈ p1, x.block < W.heap.size := by obtain ⟨m, hm⟩ := k1; exact DataW.trod_lt m _ _ _ hm
  have k2 := h2
  have lt2 : ∀ x ∈ p2, x.block < W.heap.size := by obtain ⟨m, hm⟩ := k2; exact DataW.trod_lt m _ _ _ hm
  obtain ⟨a0, f0⟩ := open_hops (e := 35) (by kernel_rfl) Tryd.underlying22 (by kernel_rfl) (hval 0 22 v0 rfl rfl) h0
  obtain ⟨a1, rfl, rfl, rfl, f1⟩ := open_int Tryd.underlying23 (hval 1 23 v1 rfl rfl) h1
  obtain ⟨a2, f2, rfl⟩ := open_bytes (n := 256) (by kernel_rfl) Tryd.underlying24 (hval 2 24 v2 rfl rfl) h2
  clear hA0
  refine (onionBack_walk G f0 f1 f2).mono fun e W' ⟨he, bel⟩ => ?_
  subst he
  exact ⟨_, rfl, _, _, _, [], _, [], hW', trodAll_mk1 (shut_bool Tryd.underlying4 _), (trodAll_cons_mk (Below.trod onionBack_laidout (by kernel_rfl) (of_decide_eq_true (by kernel_rfl)) k0 bel lt0) (trodAll_cons_mk (Below.trod onionBack_laidout (by kernel_rfl) (of_decide_eq_true (by kernel_rfl)) k1 bel lt1) (trodAll_cons_mk (Below.trod onionBack_laidout (by kernel_rfl) (of_decide_eq_true (by kernel_rfl)) k2 bel lt2) trodAll_mk0))), rfl, bel.frame _, fun h => by cases h⟩
noncomputable def onionBack_wit : Array Value := #[.slice none 0 0, .int .u16 0, .agg (v8 (zs 256)).toArray]
theorem onionBack_met (os : Os) : laidMet Tryd.prog Rows.onionBackRow.laid ((laidWorld os).forCall (fun _ _ => 0) ⟨#[], onionBack_wit, []⟩).memory := laidMet_of_run' 8 (by kernel_rfl) (by kernel_rfl)
set_option maxRecDepth 100000 in
theorem onionBack_lifted (os : Os) (started : os.Started) (H : Type) (enc : TypeId × Value → H) (F : Stop.Interp) :
    ReturnsInHanded {} Tryd.checked os 3 .any ((OpenSpec.ofChange Rows.onionBackSpec).preRow enc Tryd.prog Tryd.f3 Rows.onionBackRow.domain false Rows.onionBackRow.laid) (((OpenSpec.ofChange Rows.onionBackSpec).at F).post enc Tryd.prog Tryd.f3 false true false false) := by
  obtain ⟨x, hx⟩ := Option.isSome_iff_exists.1 (show (DataW.whole enc Tryd.prog ((laidWorld os).forCall (fun _ _ => 0) ⟨#[], onionBack_wit, []⟩).memory Tryd.f3.params.toList Rows.onionBackSpec.vars false onionBack_wit.toList 8).isSome = true by kernel_rfl)
  refine returnsInHanded_of_row (C := Tryd.checked) (s := OpenSpec.ofChange Rows.onionBackSpec) onionBack_own started (by kernel_rfl) Tryd.func3
    (witness_row_at (enc := enc) (C := Tryd.checked) false (laidWorld os) onionBack_wit rfl (by kernel_rfl) (by kernel_rfl) (by kernel_rfl)
      (OpenSpec.preRow_of_cond 8 hx (by kernel_rfl) (fun k hk => by cases hk) (by kernel_rfl) (onionBack_met os))) ?_
  intro W base args ds gs before hval hW _ _ _ hL _ _
  exact onionBack_contract H enc W base args ds gs before hval hW hL
theorem onionBack_said : Rows.OnionBackSaid :=
  OpenClaim.holds_of_cond 3 Tryd.f3 rfl rfl rfl rfl rfl rfl rfl ⟨rfl, rfl, rfl, rfl, rfl⟩ rfl rfl rfl rfl rfl (by kernel_rfl) Tryd.func3 (by kernel_rfl)
    (of_decide_eq_true (by kernel_rfl)) (by unfold Func.isWrapper; first | (rw [if_pos (by decide +kernel)]; kernel_rfl) | (rw [if_neg (by decide +kernel)]; exact ⟨rfl, rfl⟩))
    (fun os started H enc _ F => by rw [OpenClaim.pre_eq_preRow]; exact onionBack_lifted os started H enc F)
theorem onionBack_plain (f : FuncId) (fn : Func) (hf : Tryd.pinned.checked.prog.funcNamed "hourglass/hourglasslaw11.OnionBack" = some f) (hfn : Tryd.pinned.checked.prog.funcs[f]? = some fn) :
    false = Tryd.pinned.checked.prog.looks [] ∧ ∀ (j : Nat) t, fn.params[j]? = some t → Tryd.pinned.checked.prog.wantsStandIn t = false := by
  obtain rfl : f = 3 := Option.some.inj ((show Tryd.prog.funcNamed "hourglass/hourglasslaw11.OnionBack" = some 3 by kernel_rfl).symm.trans hf) |>.symm
  obtain rfl : fn = Tryd.f3 := (Option.some.inj (Tryd.func3.symm.trans hfn)).symm
  refine ⟨by kernel_rfl, fun j t ht => ?_⟩
  have hall : ∀ t ∈ Tryd.f3.params, Tryd.prog.wantsStandIn t = false := by
    have h : (Tryd.f3.params.toList.all fun t => !Tryd.prog.wantsStandIn t) = true := by kernel_rfl
    intro t ht
    simpa using List.all_eq_true.1 h t (Array.mem_toList_iff.2 ht)
  exact hall t (Array.mem_of_getElem? ht)
/-- The card. -/
theorem onionBack_holds : Rows.OnionBackCardSaid :=
  Claim7.holds_tied_plain_at .later [] _ _ _ _ onionBack_said (fun _ h => by cases h) (by kernel_rfl) (fun _ h => by cases h) onionBack_row_tie rfl ⟨rfl, rfl⟩ (by kernel_rfl) rfl onionBack_plain (by kernel_rfl)
#print axioms onionBack_holds
end Go.Proofs.YtgdphamdbpkjdaaDoor
