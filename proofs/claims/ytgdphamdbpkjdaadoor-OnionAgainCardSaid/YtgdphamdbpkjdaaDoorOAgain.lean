/-
  Chapter 11: OnionAgain: the same again goes the same.
-/
import Derived.Test.YtgdphamdbpkjdaaDoorShown
import Derived.Test.YtgdphamdbpkjdaaDoorCard
namespace Go.Proofs.YtgdphamdbpkjdaaDoor
open Go.ChangeShapes Go.WideShapes Go.ChangeAt Go.RowKit Go.Hg
set_option linter.unusedSimpArgs false
set_option linter.unusedVariables false
theorem bldP_ok {hops : List HopO} {box : Nat} {body : List (BitVec 8)} (hbox : box < 65536) (hb : body.length = 256) : (BldP (buildOf (hops.map (·.1)) box body)).ok := by
  by_cases h : hops.length < 1 ∨ 5 < hops.length
  · have e : buildOf (hops.map (·.1)) box body = none := by
      unfold buildOf
      rw [if_pos (by rw [List.length_map]; exact h)]
    rw [e]
    exact PktD.zero_ok
  · cases e : buildOf (hops.map (·.1)) box body with
    | none => exact PktD.zero_ok
    | some p =>
      rw [buildOf_F (by rw [List.length_map]; omega) (by rw [List.length_map]; omega)] at e
      cases hops with
      | nil => simp at h
      | cons x xs =>
        rw [List.map_cons] at e
        exact (layer_all hbox hb (xs.map (·.1)) x.1 [] p (fun y hy => by
          rw [← List.map_cons (f := Subtype.val)] at hy
          obtain ⟨z, _, rfl⟩ := List.mem_map.1 hy
          exact z.2) (by simp at h ⊢; omega) e).ok
theorem u16_nat {a : Int} (h : (Lit.int .u16 a).wf = true) : ∃ n : Nat, n < 65536 ∧ a = (n : Int) := by
  have e1 : IntKind.u16.min = 0 := rfl
  have e2 : IntKind.u16.max = 65535 := rfl
  simp [Lit.wf, e1, e2] at h
  exact ⟨a.toNat, by omega, by omega⟩
theorem flat_pkt : flatK Tryd.prog 6 39 = some PktD.kinds := by kernel_rfl
theorem flat_hop : flatK Tryd.prog 6 35 = some HopD.kinds := by kernel_rfl
theorem eql_pkt {p : PktD} (hp : p.ok) (w : World) (o : Oper) (ρ : Operand → Value) (x y : Operand) (yt : TypeId) (ho : o.op = .binOp .eql 39 x y yt) (hx : ρ x = .agg p.cells.toArray) (hy : ρ y = .agg p.cells.toArray) : (execOp ρ o).run Tryd.prog w = .ok (.value (.bool true)) w := by
  rw [exec_eql_flat (m := 6) ho hx hy (by omega) (by kernel_rfl) (by kernel_rfl) flat_pkt (by kernel_rfl) (by kernel_rfl) (PktD.fits_cells hp) (PktD.fits_cells hp), eqB_refl]
theorem neq_hop {h : HopD} (hp : h.ok) (w : World) (o : Oper) (ρ : Operand → Value) (x y : Operand) (yt : TypeId) (ho : o.op = .binOp .neq 35 x y yt) (hx : ρ x = .agg h.cells.toArray) (hy : ρ y = .agg h.cells.toArray) : (execOp ρ o).run Tryd.prog w = .ok (.value (.bool false)) w := by
  rw [exec_neq_flat (m := 6) ho hx hy (by omega) (by kernel_rfl) (by kernel_rfl) flat_hop (by kernel_rfl) (by kernel_rfl) (HopD.fits_cells hp) (HopD.fits_cells hp), eqB_refl]; rfl

theorem place_of {α : Type} {c : α → List Value} {e : TypeId} {size m q : Nat} {xs : List α} {a : Option Addr} {w0 w : World} {F : List SP} (hm : m = xs.length) (H : At w0 F w) (k : Nat) (hk : F[k]? = some (lrow e size c (.slice a m q) xs)) (h0 : 0 < m) : ∃ g off, a = some ⟨g, off, none⟩ := by
  subst hm
  exact lrow_place H k hk h0
theorem elem_of {α : Type} {P : Program} {c : α → List Value} {e : TypeId} {size by_ m q g off i : Nat} {xs : List α} {x : α} {w0 w : World} {F : List SP} (E : El P e size by_ c) (hm : m = xs.length) (H : At w0 F w) (k : Nat) (hk : F[k]? = some (lrow e size c (.slice (some ⟨g, off, none⟩) m q) xs)) (hx : xs[i]? = some x) : w.rangeAt g (off + i * size) (c x) := by
  subst hm
  exact lrow_at E H k hk hx
set_option maxRecDepth 10000 in
set_option maxHeartbeats 4000000 in
theorem onionAgain_c {w0 w : World} {F : List SP} {v : Value} {hops : List HopO} {box : Nat} {body : List (BitVec 8)} (G : Glob w0) (H : At w0 F w) (hv : SeeL 54 hopC w0 F v hops) (hbox : box < 65536) (hb : body.length = 256) :
    Calls Tryd.prog 5 #[v, .int .u16 (box : Int), .agg (v8 body).toArray] w fun r w' => r = .returned (.bool true) ∧ At w0 F w' := by
  obtain ⟨a, cap, rfl, hcap, _⟩ := hv.slice
  obtain ⟨n, hn⟩ : ∃ n, n = hops.length := ⟨_, rfl⟩
  rw [← hn] at hv ⊢
  obtain ⟨m, hm⟩ : ∃ m, m = min n 5 := ⟨_, rfl⟩
  have hmin : (if (5 : Int) < (n : Int) then (5 : Int) else (n : Int)) = (m : Int) := by split <;> omega
  obtain ⟨cv, hcv, hrun⟩ := hv.upto el_hop under_hops' elem_hops (k := m) (by omega)
  obtain ⟨L, hL⟩ : ∃ L, L = hops.take m := ⟨_, rfl⟩
  have hLm := Lib.hid (show m = L.length by rw [hL, List.length_take]; omega)
  have hm5 := Lib.hid (show m ≤ 5 by omega)
  rw [← hL] at hcv
  have HCV := Lib.hid hcv
  have HRUN := Lib.hid hrun
  have HB := Lib.hid hb
  obtain ⟨p, hp⟩ : ∃ p, p = BldP (buildOf (L.map (·.1)) box body) := ⟨_, rfl⟩
  obtain ⟨e, he⟩ : ∃ e, e = BldE (buildOf (L.map (·.1)) box body) := ⟨_, rfl⟩
  have PO := Lib.hid (show p.ok by rw [hp]; exact bldP_ok hbox hb)
  have hpl := Lib.hid (PktD.cells_length PO.out)
  have HP := Lib.hid hp
  have HE := Lib.hid he
  have HX := Lib.hid hbox
  clear hb hbox hv hcv hrun hcap hn hm hL hp he
  go_enter Tryd.func5, Tryd.ntmps5
  go_wp2_with ((with_reducible refine wpList_op rfl ?_); intro _ hK; first
    | (refine dst_is 5 rfl ?_; refine wp_box_sl (v := .agg (v8 body).toArray) 24 _ rfl rfl H (fun A w' (H : At w0 (raw A (v8 body).toArray 24 :: F) w') _ => hK _ _ ?_)))
  refine (shown_c G H).mono ?_; rintro e w' ⟨rfl, H⟩
  go_wp2_with ((with_reducible refine wpList_op rfl ?_); intro _ hK; first
    | (refine dst_is 15 rfl ?_; refine wp_lnew el_hop 22 under_hops rfl H (fun X w' H => hK _ _ ?_))
    | (refine dst_is 20 rfl ?_; refine wp_slice 22 _ _ _ _ rfl (HRUN.out _) (hK _ _ ?_))
    | (refine dst_is 21 rfl ?_; refine wp_lapp el_hop 22 22 under_hops (.inl ⟨_, under_hops⟩) _ _ rfl rfl H rfl (((HCV.out.more _).more _).src el_hop H) (by rw [← hLm.out]; have := hm5.out; simp [maxLen]; omega) (by rw [← hLm.out]; have := hm5.out; simp; omega) (fun b q w' H => ?_); rw [List.nil_append, ← hLm.out] at H ⊢; refine hK _ _ (Stop.go ?_)))
  refine Stop.un ?_
  go_wp2_with ((with_reducible refine wpList_op rfl ?_); intro _ hK; first
    | (refine dst_is 22 rfl ?_; refine wp_lnew el_hop 22 under_hops rfl H (fun X w' H => hK _ _ ?_))
    | (refine dst_is 24 rfl ?_; refine wp_lapp_all el_hop 22 under_hops _ _ rfl rfl H rfl 0 rfl (by rw [← hLm.out]; have := hm5.out; simp [maxLen]; omega) (by rw [← hLm.out]; have := hm5.out; simp; omega) (fun b2 q2 w' H => ?_); rw [List.nil_append, ← hLm.out] at H ⊢; refine hK _ _ (Stop.go ?_)))
  refine Stop.un ?_
  replace H : At w0 (lrow 35 54 hopC (.slice b2 m q2) L :: lrow 35 54 hopC (.slice b m q) L :: raw A (v8 body).toArray 24 :: F) w' := H
  go_wp2_with ((with_reducible refine wpList_op rfl ?_); intro _ hK; first
    | (refine dst_is 28 rfl ?_; refine wp_lda 24 _ rfl (b := A) (bs := body) rfl (by kernel_rfl) (by rw [HB.out]; exact size_a256) 2 H rfl (hK _ _ ?_)))
  refine (build_c G H (see_own el_hop H 1 hLm.out rfl) HB.out HX.out).mono ?_; rintro e' w' ⟨rfl, H⟩
  rw [← HP.out, ← HE.out]
  go_wp2_with ((with_reducible refine wpList_op rfl ?_); intro _ hK; first
    | (refine dst_is 9 rfl ?_; refine wp_alloc_sl 39 rfl info_pkt H (fun P w' (H : At w0 (raw P PktD.zero.cells.toArray 39 :: lrow 35 54 hopC (.slice b2 m q2) L :: lrow 35 54 hopC (.slice b m q) L :: raw A (v8 body).toArray 24 :: F) w') _ => hK _ _ ?_))
    | (refine sto_is 9 rfl ?_; refine wp_store_row_sl 39 _ _ rfl (b := P) (cells := p.cells.toArray) rfl rfl (by rw [List.size_toArray, hpl.out]; exact size_pkt) (by simpa using PktD.cells_one) 0 H rfl (by rw [List.size_toArray, List.size_toArray, hpl.out]; rfl) (fun w' (H : At w0 (raw P p.cells.toArray 39 :: lrow 35 54 hopC (.slice b2 m q2) L :: lrow 35 54 hopC (.slice b m q) L :: raw A (v8 body).toArray 24 :: F) w') => hK _ _ ?_))
    | (refine dst_is 35 rfl ?_; refine wp_lda 24 _ rfl (b := A) (bs := body) rfl (by kernel_rfl) (by rw [HB.out]; exact size_a256) 3 H rfl (hK _ _ ?_)))
  refine (build_c G H (see_own el_hop H 2 hLm.out rfl) HB.out HX.out).mono ?_; rintro e' w' ⟨rfl, H⟩
  rw [← HP.out, ← HE.out]
  go_wp2_with ((with_reducible refine wpList_op rfl ?_); intro _ hK; first
    | (refine dst_is 11 rfl ?_; refine wp_alloc_sl 39 rfl info_pkt H (fun Q w' H _ => ?_); replace H : At w0 (raw Q PktD.zero.cells.toArray 39 :: raw P p.cells.toArray 39 :: lrow 35 54 hopC (.slice b2 m q2) L :: lrow 35 54 hopC (.slice b m q) L :: F) w' := H.maskR [true, true, true, true, false]; refine hK _ _ ?_)
    | (refine sto_is 11 rfl ?_; refine wp_store_row_sl 39 _ _ rfl (b := Q) (cells := p.cells.toArray) rfl rfl (by rw [List.size_toArray, hpl.out]; exact size_pkt) (by simpa using PktD.cells_one) 0 H rfl (by rw [List.size_toArray, List.size_toArray, hpl.out]; rfl) (fun w' (H : At w0 (raw Q p.cells.toArray 39 :: raw P p.cells.toArray 39 :: lrow 35 54 hopC (.slice b2 m q2) L :: lrow 35 54 hopC (.slice b m q) L :: F) w') => hK _ _ (Stop.go ?_))))
  refine Stop.un ?_
  go_wp2_with fail
  go_loopw [13] (fun i wr => ∃ c : Nat, c ≤ m ∧ i = .int .i64 (c : Int) ∧ At w0 (raw Q p.cells.toArray 39 :: raw P p.cells.toArray 39 :: lrow 35 54 hopC (.slice b2 m q2) L :: lrow 35 54 hopC (.slice b m q) L :: F) wr) (fun i _ => m - (intOf i).toNat)
  case atStart => exact ⟨0, by omega, rfl, H⟩
  case round =>
    clear H
    obtain ⟨c, hcm, rfl, H⟩ := hrel
    by_cases hc : c < m
    · have hlt : (c : Int) < (m : Int) := by omega
      obtain ⟨h, hx⟩ : ∃ h, L[c]? = some h := ⟨_, List.getElem?_eq_getElem (by rw [← hLm.out]; omega)⟩
      have HH := Lib.hid hx
      have h54 := Lib.hid (HopD.cells_length h.2.key h.2.nonce)
      obtain ⟨g, off, rfl⟩ := place_of hLm.out H 3 rfl (by omega)
      obtain ⟨g2, off2, rfl⟩ := place_of hLm.out H 2 rfl (by omega)
      clear hx
      go_wp2_with fail
      refine wpM_begin [] ((At w0 (raw Q p.cells.toArray 39 :: raw P p.cells.toArray 39 :: lrow 35 54 hopC (.slice (some ⟨g2, off2, none⟩) m q2) L :: lrow 35 54 hopC (.slice (some ⟨g, off, none⟩) m q) L :: F))) [(0, 2), (1, 2), (2, 2), (3, 1), (4, 2), (5, 2), (6, 2), (7, 1), (8, 2)] rfl (by kernel_rfl) (by kernel_rfl) ((H.drew)) ?_
      intro ops hOps hS
      replace H := H.drew
      refine wpM_free hOps rfl (fun _ _ _ h => h) (yl_move rfl _ rfl) ?_
      simp only [Act.put, Act.eval, List.setIfInBounds_toArray, List.set_cons_zero, List.set_cons_succ, Array.getD_eq_getD_getElem?, List.getElem?_toArray, List.getElem?_cons_zero, List.getElem?_cons_succ, Option.getD_some]
      refine wpM_free hOps rfl (fun _ _ _ h => h) (yl_move rfl _ rfl) ?_
      simp only [Act.put, Act.eval, List.setIfInBounds_toArray, List.set_cons_zero, List.set_cons_succ, Array.getD_eq_getD_getElem?, List.getElem?_toArray, List.getElem?_cons_zero, List.getElem?_cons_succ, Option.getD_some]
      refine wpM_free hOps (v := ?vOp10) rfl (fun _ _ _ h => h) (yl rfl ?yOp10) ?_
      case yOp10 => (intro w hw; go_simp; first | done | rfl)
      simp only [Act.put, Act.eval, List.setIfInBounds_toArray, List.set_cons_zero, List.set_cons_succ, Array.getD_eq_getD_getElem?, List.getElem?_toArray, List.getElem?_cons_zero, List.getElem?_cons_succ, Option.getD_some]
      refine wpM_take hOps hS rfl (fun _ _ _ h => h) (yl_mid rfl 35 _ rfl rfl h.1.cells (by kernel_rfl) (by rw [h54.out]; exact size_hop) (fun w hw => elem_of (c := hopC) (xs := L) (x := h) el_hop hLm.out hw 3 rfl HH.out)) ?_
      simp only [Act.put, Act.eval, List.setIfInBounds_toArray, List.set_cons_zero, List.set_cons_succ, Array.getD_eq_getD_getElem?, List.getElem?_toArray, List.getElem?_cons_zero, List.getElem?_cons_succ, Option.getD_some]
      refine wpM_free hOps rfl (fun _ _ _ h => h) (yl_move rfl _ rfl) ?_
      simp only [Act.put, Act.eval, List.setIfInBounds_toArray, List.set_cons_zero, List.set_cons_succ, Array.getD_eq_getD_getElem?, List.getElem?_toArray, List.getElem?_cons_zero, List.getElem?_cons_succ, Option.getD_some]
      refine wpM_free hOps rfl (fun _ _ _ h => h) (yl_move rfl _ rfl) ?_
      simp only [Act.put, Act.eval, List.setIfInBounds_toArray, List.set_cons_zero, List.set_cons_succ, Array.getD_eq_getD_getElem?, List.getElem?_toArray, List.getElem?_cons_zero, List.getElem?_cons_succ, Option.getD_some]
      refine wpM_free hOps (v := ?vOp20) rfl (fun _ _ _ h => h) (yl rfl ?yOp20) ?_
      case yOp20 => (intro w hw; go_simp; first | done | rfl)
      simp only [Act.put, Act.eval, List.setIfInBounds_toArray, List.set_cons_zero, List.set_cons_succ, Array.getD_eq_getD_getElem?, List.getElem?_toArray, List.getElem?_cons_zero, List.getElem?_cons_succ, Option.getD_some]
      refine wpM_take hOps hS rfl (fun _ _ _ h => h) (yl_mid rfl 35 _ rfl rfl h.1.cells (by kernel_rfl) (by rw [h54.out]; exact size_hop) (fun w hw => elem_of (c := hopC) (xs := L) (x := h) el_hop hLm.out hw 2 rfl HH.out)) ?_
      simp only [Act.put, Act.eval, List.setIfInBounds_toArray, List.set_cons_zero, List.set_cons_succ, Array.getD_eq_getD_getElem?, List.getElem?_toArray, List.getElem?_cons_zero, List.getElem?_cons_succ, Option.getD_some]
      refine wpM_free hOps rfl (fun _ _ _ h => h) (yl rfl (fun w _ => neq_hop h.2 w _ _ _ _ _ rfl rfl rfl)) ?_
      simp only [Act.put, Act.eval, List.setIfInBounds_toArray, List.set_cons_zero, List.set_cons_succ, Array.getD_eq_getD_getElem?, List.getElem?_toArray, List.getElem?_cons_zero, List.getElem?_cons_succ, Option.getD_some]
      refine wpM_end ?_
      clear hOps hS ops
      go_wp2_with fail
      first
        | (refine ⟨?_, ?measure⟩; iterate 60 (try apply Exists.intro); refine ⟨?rel, rfl⟩)
        | refine ⟨?rel, ?measure⟩
      case rel => exact ⟨c + 1, by omega, by go_num, H⟩
      case measure => simp [intOf]; omega
    · obtain rfl : c = m := by omega
      go_wp2_with ((first | (with_reducible refine wpList_op rfl ?_) | (refine wpList_opif (by rfl) ?_)); intro _ hK; first
        | (refine dst_is 56 rfl ?_; refine wp_mid 39 _ rfl (b := P) (off := 0) rfl p.cells (by kernel_rfl) (by rw [hpl.out]; exact size_pkt) (at_blk H 1 rfl) (hK _ _ ?_))
        | (refine dst_is 57 rfl ?_; refine wp_mid 39 _ rfl (b := Q) (off := 0) rfl p.cells (by kernel_rfl) (by rw [hpl.out]; exact size_pkt) (at_blk H 0 rfl) (hK _ _ ?_))
        | (refine dst_is 58 rfl ?_; refine wp_run (eql_pkt PO.out _ _ _ _ _ _ rfl rfl rfl) (hK _ _ ?_)))
      exact ⟨rfl, _, results_tmp rfl _ _ _, rfl, H.maskR [false, false, false, false]⟩
theorem onionAgain_walk {W : World} {v : Value} {hops : List HopO} {a : Int} {body : List (BitVec 8)} (G : Glob W) (hv : SeeL 54 hopC W [] v hops) (ha : (Lit.int .u16 a).wf = true) (hb : body.length = 256) : Calls Tryd.prog 5 #[v, .int .u16 a, .agg (v8 body).toArray] W fun e w' => e = .returned (.bool true) ∧ Below W.heap.size W w' := by
  obtain ⟨box, hbox, rfl⟩ := u16_nat ha
  exact (onionAgain_c G (At.start W) hv hbox hb).mono fun _ _ h => ⟨h.1, h.2.below⟩
theorem onionAgain_own : ownKnob Tryd.prog.godebug = none := by kernel_rfl
theorem onionAgain_laidout : laidOutB Tryd.prog = true := by kernel_rfl
set_option maxRecDepth 100000 in
theorem onionAgain_contract (H : Type) (enc : TypeId × Value → H) (W : World) (base : Nat) (args : Array Value) (ds gs : List (DataW H)) (before : List MemPlace)
    (hval : ∀ (j : Nat) t v, Tryd.f5.params[j]? = some t → args[j]? = some v → Value.okWide Tryd.prog W .any base t v)
    (hW : DataW.Whole enc Tryd.prog Tryd.f5.params.toList Rows.onionAgainSpec.vars false W args.toList ds gs before) (hL : laidMetH Tryd.prog Rows.onionAgainRow.laid W) :
    Calls Tryd.prog 5 args W fun e W' => ∃ v, e = .returned v ∧ Rows.onionAgainSpec.post enc Tryd.prog Tryd.f5 false true false false W args v W' := by
  have G : Glob W := glob_of_laid hL
  have hW' := hW
  obtain ⟨p, q, hA0, hV, rfl, hfz, hnd⟩ := hW
  have hA : DataW.TrodAll enc Tryd.prog W 0 (fun _ => true) true Tryd.f5.params.toList args.toList ds p := hA0
  rw [Tryd.params5] at hA hval
  obtain ⟨v0, vs0, d0, ds0, p0, q0, hargs, rfl, rfl, h0, r0⟩ := trodAll_cons hA
  obtain ⟨v1, vs1, d1, ds1, p1, q1, rfl, rfl, rfl, h1, r1⟩ := trodAll_cons r0
  obtain ⟨v2, vs2, d2, ds2, p2, q2, rfl, rfl, rfl, h2, r2⟩ := trodAll_cons r1
  obtain ⟨rfl, rfl, rfl⟩ := trodAll_nil r2
  obtain rfl : args = #[v0, v1, v2] := by cases args; simp_all
  obtain ⟨rfl, rfl⟩ := trodVars_none hV
  have k0 := h0
  have lt0 : ∀ x ∈ p0, x.block < W.heap.size := by obtain ⟨m, hm⟩ := k0; exact DataW.trod_lt m _ _ _ hm
  have k1 := h1
  have lt1 : ∀ x ∈ p1, x.block < W.heap.size := by obtain ⟨m, hm⟩ := k1; exact DataW.trod_lt m _ _ _ hm
  have k2 := h2
  have lt2 : ∀ x ∈ p2, x.block < W.heap.size := by obtain ⟨m, hm⟩ := k2; exact DataW.trod_lt m _ _ _ hm
  obtain ⟨a0, f0⟩ := open_hops (e := 35) (by kernel_rfl) Tryd.underlying22 (by kernel_rfl) (hval 0 22 v0 rfl rfl) h0
  obtain ⟨a1, rfl, rfl, rfl, f1⟩ := open_int Tryd.underlying23 (hval 1 23 v1 rfl rfl) h1
  obtain ⟨a2, f2, rfl⟩ := open_bytes (n := 256) (by kernel_rfl) Tryd.underlying24 (hval 2 24 v2 rfl rfl) h2
  clear hA0
  refine (onionAgain_walk G f0 f1 f2).mono fun e W' ⟨he, bel⟩ => ?_
  subst he
  exact ⟨_, rfl, _, _, _, [], _, [], hW', trodAll_mk1 (shut_bool Tryd.underlying4 _), (trodAll_cons_mk (Below.trod onionAgain_laidout (by kernel_rfl) (of_decide_eq_true (by kernel_rfl)) k0 bel lt0) (trodAll_cons_mk (Below.trod onionAgain_laidout (by kernel_rfl) (of_decide_eq_true (by kernel_rfl)) k1 bel lt1) (trodAll_cons_mk (Below.trod onionAgain_laidout (by kernel_rfl) (of_decide_eq_true (by kernel_rfl)) k2 bel lt2) trodAll_mk0))), rfl, bel.frame _, fun h => by cases h⟩
noncomputable def onionAgain_wit : Array Value := #[.slice none 0 0, .int .u16 0, .agg (v8 (zs 256)).toArray]
theorem onionAgain_met (os : Os) : laidMet Tryd.prog Rows.onionAgainRow.laid ((laidWorld os).forCall (fun _ _ => 0) ⟨#[], onionAgain_wit, []⟩).memory := laidMet_of_run' 8 (by kernel_rfl) (by kernel_rfl)
set_option maxRecDepth 100000 in
theorem onionAgain_lifted (os : Os) (started : os.Started) (H : Type) (enc : TypeId × Value → H) (F : Stop.Interp) :
    ReturnsInHanded {} Tryd.checked os 5 .any ((OpenSpec.ofChange Rows.onionAgainSpec).preRow enc Tryd.prog Tryd.f5 Rows.onionAgainRow.domain false Rows.onionAgainRow.laid) (((OpenSpec.ofChange Rows.onionAgainSpec).at F).post enc Tryd.prog Tryd.f5 false true false false) := by
  obtain ⟨x, hx⟩ := Option.isSome_iff_exists.1 (show (DataW.whole enc Tryd.prog ((laidWorld os).forCall (fun _ _ => 0) ⟨#[], onionAgain_wit, []⟩).memory Tryd.f5.params.toList Rows.onionAgainSpec.vars false onionAgain_wit.toList 8).isSome = true by kernel_rfl)
  refine returnsInHanded_of_row (C := Tryd.checked) (s := OpenSpec.ofChange Rows.onionAgainSpec) onionAgain_own started (by kernel_rfl) Tryd.func5
    (witness_row_at (enc := enc) (C := Tryd.checked) false (laidWorld os) onionAgain_wit rfl (by kernel_rfl) (by kernel_rfl) (by kernel_rfl)
      (OpenSpec.preRow_of_cond 8 hx (by kernel_rfl) (fun k hk => by cases hk) (by kernel_rfl) (onionAgain_met os))) ?_
  intro W base args ds gs before hval hW _ _ _ hL _ _
  exact onionAgain_contract H enc W base args ds gs before hval hW hL
theorem onionAgain_said : Rows.OnionAgainSaid :=
  OpenClaim.holds_of_cond 5 Tryd.f5 rfl rfl rfl rfl rfl rfl rfl ⟨rfl, rfl, rfl, rfl, rfl⟩ rfl rfl rfl rfl rfl (by kernel_rfl) Tryd.func5 (by kernel_rfl)
    (of_decide_eq_true (by kernel_rfl)) (by unfold Func.isWrapper; first | (rw [if_pos (by decide +kernel)]; kernel_rfl) | (rw [if_neg (by decide +kernel)]; exact ⟨rfl, rfl⟩))
    (fun os started H enc _ F => by rw [OpenClaim.pre_eq_preRow]; exact onionAgain_lifted os started H enc F)
theorem onionAgain_plain (f : FuncId) (fn : Func) (hf : Tryd.pinned.checked.prog.funcNamed "hourglass/hourglasslaw11.OnionAgain" = some f) (hfn : Tryd.pinned.checked.prog.funcs[f]? = some fn) :
    false = Tryd.pinned.checked.prog.looks [] ∧ ∀ (j : Nat) t, fn.params[j]? = some t → Tryd.pinned.checked.prog.wantsStandIn t = false := by
  obtain rfl : f = 5 := Option.some.inj ((show Tryd.prog.funcNamed "hourglass/hourglasslaw11.OnionAgain" = some 5 by kernel_rfl).symm.trans hf) |>.symm
  obtain rfl : fn = Tryd.f5 := (Option.some.inj (Tryd.func5.symm.trans hfn)).symm
  refine ⟨by kernel_rfl, fun j t ht => ?_⟩
  have hall : ∀ t ∈ Tryd.f5.params, Tryd.prog.wantsStandIn t = false := by
    have h : (Tryd.f5.params.toList.all fun t => !Tryd.prog.wantsStandIn t) = true := by kernel_rfl
    intro t ht
    simpa using List.all_eq_true.1 h t (Array.mem_toList_iff.2 ht)
  exact hall t (Array.mem_of_getElem? ht)
/-- The card. -/
theorem onionAgain_holds : Rows.OnionAgainCardSaid :=
  Claim7.holds_tied_plain_at .later [] _ _ _ _ onionAgain_said (fun _ h => by cases h) (by kernel_rfl) (fun _ h => by cases h) onionAgain_row_tie rfl ⟨rfl, rfl⟩ (by kernel_rfl) rfl onionAgain_plain (by kernel_rfl)
#print axioms onionAgain_holds
end Go.Proofs.YtgdphamdbpkjdaaDoor
