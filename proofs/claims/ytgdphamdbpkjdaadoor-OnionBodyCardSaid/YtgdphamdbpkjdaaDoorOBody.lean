/-
  Chapter 11: OnionBody: all that is not the body hangs on the body by MACs alone.
-/
import Derived.Test.YtgdphamdbpkjdaaDoorLawA
import Derived.Test.YtgdphamdbpkjdaaDoorCard
import Derived.Deep.CutRange
namespace Go.Proofs.YtgdphamdbpkjdaaDoor
open Go.ChangeShapes Go.WideShapes Go.ChangeAt Go.RowKit Go.Hg
set_option linter.unusedSimpArgs false
set_option linter.unusedVariables false
theorem range_sub {w : World} {b off k : Nat} {cs xs : List Value} (h : w.rangeAt b off cs) (hc : (cs.drop k).take xs.length = xs) : w.rangeAt b (off + k) xs := fun j v hv => by
  rw [← hc, List.getElem?_take] at hv
  split at hv
  · rw [List.getElem?_drop] at hv
    have := h (k + j) v hv
    rwa [← Nat.add_assoc] at this
  · cases hv
/-- The slot that comes out, whoever is next. -/
theorem back_slot {box : Nat} {body : List (BitVec 8)} {L : List HopO} {c : Nat} {h : HopO} {p q : PktD} {s : SlotD} (hbox : box < 65536) (hb : body.length = 256) (hc : L[c]? = some h) (I : BkInv box body L c p) (S : BkStep box body L c h.1 p s q) : ∃ b, s = slotOf h.1 ((L[c + 1]?).map (·.1)) b box := by
  have hl := (List.getElem?_eq_some_iff.1 hc).1
  obtain ⟨f, hf, hp⟩ := I.more hl
  rw [drop_some hc, List.map_cons] at hp
  have Y := (layer_all hbox hb _ h.1 f p (fun x hx => by
    rcases List.mem_cons.1 hx with rfl | hx
    · exact h.2
    · obtain ⟨z, _, rfl⟩ := List.mem_map.1 hx
      exact z.2) (by rw [List.length_map, List.length_drop]; omega) hp).peel
  have e := S.peel
  cases hr : L[c + 1]? with
  | none =>
    rw [List.drop_of_length_le (List.getElem?_eq_none_iff.1 hr), List.map_nil] at Y
    obtain ⟨r, hpe, _⟩ := Y
    rw [hpe] at e
    exact ⟨lastP body, (congrArg (·.1) e).symm⟩
  | some n =>
    rw [drop_some hr, List.map_cons] at Y
    obtain ⟨r, _, hpe⟩ := Y
    rw [hpe] at e
    exact ⟨r, (congrArg (·.1) e).symm⟩
theorem slot_mac (h : HopD) (next : Option HopD) (b b2 : PktD) (box : Nat) : ({ slotOf h next b box with mac := zs 16 } : SlotD) = { slotOf h next b2 box with mac := zs 16 } := by cases next <;> rfl
theorem bld_bad {box : Nat} {body : List (BitVec 8)} {L : List HopO} (h5 : L.length ≤ 5) (h : ¬ (1 ≤ L.length ∧ ∀ x ∈ L, x.1.lo ≤ x.1.hi)) : buildOf (L.map (·.1)) box body = none := by
  by_cases h1 : 1 ≤ L.length
  · rw [buildOf_F (by rwa [List.length_map]) (by rwa [List.length_map])]
    cases e : buildF box body (L.map (·.1)) [] with
    | none => rfl
    | some p =>
      refine absurd ⟨h1, fun x hx => ?_⟩ h
      have hne : L.map (·.1) ≠ [] := fun e => by have := congrArg List.length e; simp at this; subst this; simp at h1
      exact (buildF_none box body (L.map (·.1)) [] hne).1 (by rw [e]; rfl) x.1 (List.mem_map_of_mem hx)
  · unfold buildOf
    rw [if_pos (by rw [List.length_map]; omega)]
theorem built_mac0 (w : World) : (Instr.build 36 #[]).run Tryd.prog w = .ok (.agg (v8 (zs 16)).toArray) w := run_build w _ _ _ (by kernel_rfl)
set_option maxRecDepth 10000 in
set_option maxHeartbeats 8000000 in
theorem onionBody_c {w0 w : World} {F : List SP} {v : Value} {hops : List HopO} {box : Nat} {x y : List (BitVec 8)} (G : Glob w0) (H : At w0 F w) (hv : SeeL 54 hopC w0 F v hops) (hbox : box < 65536) (hbx : x.length = 256) (hby : y.length = 256) :
    Calls Tryd.prog 6 #[v, .int .u16 (box : Int), .agg (v8 x).toArray, .agg (v8 y).toArray] w fun r w' => r = .returned (.bool true) ∧ At w0 F w' := by
  have hb := hbx
  obtain ⟨a, cap, rfl, hcap, _⟩ := hv.slice
  obtain ⟨n, hn⟩ : ∃ n, n = hops.length := ⟨_, rfl⟩
  rw [← hn] at hv ⊢
  obtain ⟨m, hm⟩ : ∃ m, m = min n 5 := ⟨_, rfl⟩
  have hmin : (if (5 : Int) < (n : Int) then (5 : Int) else (n : Int)) = (m : Int) := by split <;> omega
  obtain ⟨cv, hcv, hrun⟩ := hv.upto el_hop under_hops' elem_hops (k := m) (by omega)
  obtain ⟨L, hL⟩ : ∃ L, L = hops.take m := ⟨_, rfl⟩
  have hLm := Lib.hid (show m = L.length by rw [hL, List.length_take]; omega)
  have hm5 := Lib.hid (show m ≤ 5 by omega)
  rw [← hL] at hcv
  have HCV := Lib.hid hcv
  have HRUN := Lib.hid hrun
  have HB := Lib.hid hb
  clear HCV
  obtain ⟨a2, cap2, rfl, hcap2, hs2⟩ := hcv.slice
  rw [← hLm.out] at hcv hs2 hcap2
  have HCV := Lib.hid hcv
  have HS := Lib.hid hs2
  have HY := Lib.hid hby
  have HX := Lib.hid hbox
  rw [← hLm.out] at hrun
  have HRUN := Lib.hid hrun
  clear hb hbox hv hcv hrun hcap hn hm hbx hby hs2 hcap2
  go_enter Tryd.func6, Tryd.ntmps6
  go_wp2_with ((with_reducible refine wpList_op rfl ?_); intro _ hK; first
    | (refine dst_is 6 rfl ?_; refine wp_box_sl (v := .agg (v8 x).toArray) 24 _ rfl rfl H (fun X w' (H : At w0 (raw X (v8 x).toArray 24 :: F) w') _ => hK _ _ ?_))
    | (refine dst_is 7 rfl ?_; refine wp_box_sl (v := .agg (v8 y).toArray) 24 _ rfl rfl H (fun Y w' (H : At w0 (raw Y (v8 y).toArray 24 :: raw X (v8 x).toArray 24 :: F) w') _ => hK _ _ ?_)))
  refine (shown_c G H).mono ?_; rintro e w' ⟨rfl, H⟩
  go_wp2_with ((with_reducible refine wpList_op rfl ?_); intro _ hK; first
    | (refine dst_is 26 rfl ?_; refine wp_slice 22 _ _ _ _ rfl (HRUN.out _) (hK _ _ ?_))
    | (refine dst_is 30 rfl ?_; refine wp_lda 24 _ rfl (b := X) (bs := x) rfl (by kernel_rfl) (by rw [HB.out]; exact size_a256) 1 H rfl (hK _ _ ?_)))
  by_cases hgood : ¬ (1 ≤ L.length ∧ ∀ x ∈ L, x.1.lo ≤ x.1.hi)
  · refine (build_c G H ((HCV.out.more _).more _) HB.out HX.out).mono ?_; rintro e' w' ⟨rfl, H⟩
    rw [bld_bad (by rw [← hLm.out]; exact hm5.out) hgood, show BldP none = PktD.zero from rfl, show BldE none = 1 from rfl]
    have zpl := Lib.hid (PktD.cells_length PktD.zero_ok)
    go_wp2_with ((with_reducible refine wpList_op rfl ?_); intro _ hK; first
      | (refine dst_is 10 rfl ?_; refine wp_alloc_sl 39 rfl info_pkt H (fun P w' (H : At w0 (raw P PktD.zero.cells.toArray 39 :: raw Y (v8 y).toArray 24 :: raw X (v8 x).toArray 24 :: F) w') _ => hK _ _ ?_))
      | (refine sto_is 10 rfl ?_; refine wp_store_row_sl 39 _ _ rfl (b := P) (cells := PktD.zero.cells.toArray) rfl rfl (by rw [List.size_toArray, zpl.out]; exact size_pkt) (by simpa using PktD.cells_one) 0 H rfl rfl (fun w' H => ?_); replace H : At w0 (raw P PktD.zero.cells.toArray 39 :: raw Y (v8 y).toArray 24 :: raw X (v8 x).toArray 24 :: F) w' := H; refine hK _ _ ?_)
      | (refine dst_is 37 rfl ?_; refine wp_lda 24 _ rfl (b := Y) (bs := y) rfl (by kernel_rfl) (by rw [HY.out]; exact size_a256) 1 H rfl (hK _ _ ?_)))
    refine (build_c G H (((HCV.out.more _).more _).more _) HY.out HX.out).mono ?_; rintro e' w' ⟨rfl, H⟩
    rw [bld_bad (by rw [← hLm.out]; exact hm5.out) hgood, show BldP none = PktD.zero from rfl, show BldE none = 1 from rfl]
    go_wp2_with ((with_reducible refine wpList_op rfl ?_); intro _ hK; first
      | (refine dst_is 12 rfl ?_; refine wp_alloc_sl 39 rfl info_pkt H (fun Q w' (H : At w0 (raw Q PktD.zero.cells.toArray 39 :: raw P PktD.zero.cells.toArray 39 :: raw Y (v8 y).toArray 24 :: raw X (v8 x).toArray 24 :: F) w') _ => hK _ _ ?_))
      | (refine sto_is 12 rfl ?_; refine wp_store_row_sl 39 _ _ rfl (b := Q) (cells := PktD.zero.cells.toArray) rfl rfl (by rw [List.size_toArray, zpl.out]; exact size_pkt) (by simpa using PktD.cells_one) 0 H rfl rfl (fun w' H => ?_); replace H : At w0 (raw Q PktD.zero.cells.toArray 39 :: raw P PktD.zero.cells.toArray 39 :: raw Y (v8 y).toArray 24 :: raw X (v8 x).toArray 24 :: F) w' := H; refine hK _ _ (Stop.go ?_)))
    refine Stop.un ?_
    go_wp2_with ((first | (with_reducible refine wpList_op rfl ?_) | (refine wpList_opif (by rfl) ?_)); intro _ hK; fail)
    exact ⟨rfl, _, results_tmp rfl _ _ _, rfl, H.maskR [false, false, false, false]⟩
  · replace hgood := Classical.not_not.1 hgood
    obtain ⟨p, hbp, I0⟩ := back_start HX.out HB.out (L := L) hgood.1 (by rw [← hLm.out]; exact hm5.out) hgood.2
    obtain ⟨q, hbq, J0⟩ := back_start HX.out HY.out (L := L) hgood.1 (by rw [← hLm.out]; exact hm5.out) hgood.2
    have II := Lib.hid I0
    have JJ := Lib.hid J0
    have hpl := Lib.hid (PktD.cells_length I0.ok)
    have hql := Lib.hid (PktD.cells_length J0.ok)
    have HBQ := Lib.hid hbq
    refine (build_is G H ((HCV.out.more _).more _) HB.out HX.out rfl hbp).mono ?_; rintro e' w' ⟨rfl, H⟩
    clear hbp hbq I0 J0 hgood
    go_wp2_with ((with_reducible refine wpList_op rfl ?_); intro _ hK; first
      | (refine dst_is 10 rfl ?_; refine wp_alloc_sl 39 rfl info_pkt H (fun P w' (H : At w0 (raw P PktD.zero.cells.toArray 39 :: raw Y (v8 y).toArray 24 :: raw X (v8 x).toArray 24 :: F) w') _ => hK _ _ ?_))
      | (refine sto_is 10 rfl ?_; refine wp_store_row_sl 39 _ _ rfl (b := P) (cells := p.cells.toArray) rfl rfl (by rw [List.size_toArray, hpl.out]; exact size_pkt) (by simpa using PktD.cells_one) 0 H rfl (by rw [List.size_toArray, List.size_toArray, hpl.out]; rfl) (fun w' H => ?_); replace H : At w0 (raw P p.cells.toArray 39 :: raw Y (v8 y).toArray 24 :: raw X (v8 x).toArray 24 :: F) w' := H; refine hK _ _ ?_)
      | (refine dst_is 37 rfl ?_; refine wp_lda 24 _ rfl (b := Y) (bs := y) rfl (by kernel_rfl) (by rw [HY.out]; exact size_a256) 1 H rfl (hK _ _ ?_)))
    refine (build_is G H (((HCV.out.more _).more _).more _) HY.out HX.out rfl HBQ.out).mono ?_; rintro e' w' ⟨rfl, H⟩
    go_wp2_with ((with_reducible refine wpList_op rfl ?_); intro _ hK; first
      | (refine dst_is 12 rfl ?_; refine wp_alloc_sl 39 rfl info_pkt H (fun Q w' (H : At w0 (raw Q PktD.zero.cells.toArray 39 :: raw P p.cells.toArray 39 :: raw Y (v8 y).toArray 24 :: raw X (v8 x).toArray 24 :: F) w') _ => hK _ _ ?_))
      | (refine sto_is 12 rfl ?_; refine wp_store_row_sl 39 _ _ rfl (b := Q) (cells := q.cells.toArray) rfl rfl (by rw [List.size_toArray, hql.out]; exact size_pkt) (by simpa using PktD.cells_one) 0 H rfl (by rw [List.size_toArray, List.size_toArray, hql.out]; rfl) (fun w' H => ?_); replace H : At w0 (raw Q q.cells.toArray 39 :: raw P p.cells.toArray 39 :: raw Y (v8 y).toArray 24 :: raw X (v8 x).toArray 24 :: F) w' := H; refine hK _ _ (Stop.go ?_)))
    refine Stop.un ?_
    go_wp2_with fail
    go_loopw [14] (fun i wr => ∃ (d : Nat) (p q : PktD), d ≤ m ∧ i = .int .i64 (d : Int) ∧ BkInv box x L d p ∧ BkInv box y L d q ∧ At w0 (raw Q q.cells.toArray 39 :: raw P p.cells.toArray 39 :: raw Y (v8 y).toArray 24 :: raw X (v8 x).toArray 24 :: F) wr) (fun i _ => m - (intOf i).toNat)
    case atStart => exact ⟨0, p, q, by omega, rfl, II.out, JJ.out, H⟩
    case round =>
      clear H II JJ hpl hql
      obtain ⟨d, p, q, hdm, rfl, I0, J0, H⟩ := hrel
      have I := Lib.hid I0
      have J := Lib.hid J0
      clear I0 J0
      have hpl := Lib.hid (PktD.cells_length I.out.ok)
      have hql := Lib.hid (PktD.cells_length J.out.ok)
      by_cases hd : d < m
      · have hlt : (d : Int) < (m : Int) := by omega
        obtain ⟨h, hx⟩ : ∃ h, L[d]? = some h := ⟨_, List.getElem?_eq_getElem (by rw [← hLm.out]; omega)⟩
        obtain ⟨s, p', S⟩ := back_step HX.out HB.out hx I.out
        obtain ⟨t, q', T⟩ := back_step HX.out HY.out hx J.out
        obtain ⟨u, hu⟩ : ∃ u : SlotD, u = { s with mac := zs 16 } := ⟨_, rfl⟩
        have hu2 : u = { t with mac := zs 16 } := by
          obtain ⟨b1, e1⟩ := back_slot HX.out HB.out hx I.out S
          obtain ⟨b2, e2⟩ := back_slot HX.out HY.out hx J.out T
          rw [hu, e1, e2]
          exact slot_mac _ _ _ _ _
        have HH := Lib.hid hx
        obtain ⟨g, off, rfl⟩ := HS.out (by omega)
        have po := I.out.ok
        have qo := J.out.ok
        have PO := Lib.hid po
        have QO := Lib.hid qo
        have sp := peel_ok po S.peel
        have tq := peel_ok qo T.peel
        have hkl := Lib.hid h.2.key
        have hnl := Lib.hid h.2.nonce
        have f4 := Lib.hid (show (h.1.cells.drop 2).take (v8 h.1.key).length = v8 h.1.key by rw [v8_length, h.2.key]; exact HopD.part_key h.2.key)
        have hsl := Lib.hid (SlotD.cells_length sp.1.nonce sp.1.mac)
        have htl := Lib.hid (SlotD.cells_length tq.1.nonce tq.1.mac)
        have hp2 := Lib.hid (PktD.cells_length sp.2)
        have hq2 := Lib.hid (PktD.cells_length tq.2)
        have uo : u.ok := by rw [hu]; exact ⟨sp.1.next, sp.1.box, sp.1.who, sp.1.epoch, sp.1.nonce, zs_length _, sp.1.lo, sp.1.hi, sp.1.delay⟩
        have UO := Lib.hid uo
        have hul := Lib.hid (SlotD.cells_length uo.nonce uo.mac)
        have u1 := Lib.hid (show s.cells.take 21 ++ v8 (zs 16) ++ s.cells.drop (21 + (v8 (zs 16)).length) = u.cells by rw [hu]; exact SlotD.put_mac s sp.1.nonce sp.1.mac (zs 16) (zs_length _))
        have u2 := Lib.hid (show t.cells.take 21 ++ v8 (zs 16) ++ t.cells.drop (21 + (v8 (zs 16)).length) = u.cells by rw [hu2]; exact SlotD.put_mac t tq.1.nonce tq.1.mac (zs 16) (zs_length _))
        have p0 := Lib.hid (show p.cells[0]? = some (.int .u16 (h.1.who : Int)) by rw [← S.who]; rfl)
        have p1 := Lib.hid (show p.cells[1]? = some (.int .u32 (h.1.epoch : Int)) by rw [← S.epoch]; rfl)
        have p2 := Lib.hid (show (p.cells.drop 2).take 16 = v8 h.1.nonce by rw [PktD.part_nonce po, S.nonce])
        have q0 := Lib.hid (show q.cells[0]? = some (.int .u16 (h.1.who : Int)) by rw [← T.who]; rfl)
        have q1 := Lib.hid (show q.cells[1]? = some (.int .u32 (h.1.epoch : Int)) by rw [← T.epoch]; rfl)
        have q2 := Lib.hid (show (q.cells.drop 2).take 16 = v8 h.1.nonce by rw [PktD.part_nonce qo, T.nonce])
        have hpe := Lib.hid S.peel
        have hqe := Lib.hid T.peel
        have hpi := Lib.hid S.inv
        have hqi := Lib.hid T.inv
        clear hx hu hu2 S T po qo sp tq uo
        go_wp2_with fail
        go_cut [15, 16, 17] from 55 to 65 (fun s1 s2 s3 wr => ∃ S1 P1, s1 = .pointer (some ⟨S1, 0, none⟩) ∧ s2 = .pointer (some ⟨P1, 0, none⟩) ∧ s3 = .int .i64 0 ∧ At w0 (raw P1 p'.cells.toArray 39 :: raw S1 s.cells.toArray 45 :: raw Q q.cells.toArray 39 :: raw P p.cells.toArray 39 :: raw Y (v8 y).toArray 24 :: raw X (v8 x).toArray 24 :: F) wr)
        case first =>
          go_wp2_with fail
          refine wpT_begin [13, 14] ((At w0 (raw Q q.cells.toArray 39 :: raw P p.cells.toArray 39 :: raw Y (v8 y).toArray 24 :: raw X (v8 x).toArray 24 :: F))) (Tr.of [(0, 2), (1, 2), (2, 2), (3, 2), (4, 1), (5, 1)] (.three 6 11 12 (Tr.of [(7, 2), (8, 2), (9, 2), (10, 2)] (.two 11 12 (Tr.of [(12, 0), (13, 0), (14, 0), (15, 0)] .nil) (Tr.of [(11, 0), (13, 0), (14, 0), (15, 0)] .nil))) (.two 6 12 (Tr.of [(7, 2), (8, 2), (9, 2), (10, 2), (12, 0), (13, 0), (14, 0), (15, 0)] .nil) (Tr.of [(6, 0), (7, 2), (8, 2), (9, 2), (10, 2), (13, 0), (14, 0), (15, 0)] .nil)) (.two 6 11 (Tr.of [(7, 2), (8, 2), (9, 2), (10, 2), (11, 0), (13, 0), (14, 0), (15, 0)] .nil) (Tr.of [(6, 0), (7, 2), (8, 2), (9, 2), (10, 2), (13, 0), (14, 0), (15, 0)] .nil)))) rfl (by kernel_rfl) (by kernel_rfl) ((H.drew)) ?_
          intro ops hOps hS
          replace H := H.drew
          refine wpT_free hOps rfl (fun _ _ _ h => h) (yl_move rfl _ rfl) ?_
          simp only [Act.put, Act.eval, List.setIfInBounds_toArray, List.set_cons_zero, List.set_cons_succ, Array.getD_eq_getD_getElem?, List.getElem?_toArray, List.getElem?_cons_zero, List.getElem?_cons_succ, Option.getD_some]
          refine wpT_free hOps rfl (fun _ _ _ h => h) (yl_move rfl _ rfl) ?_
          simp only [Act.put, Act.eval, List.setIfInBounds_toArray, List.set_cons_zero, List.set_cons_succ, Array.getD_eq_getD_getElem?, List.getElem?_toArray, List.getElem?_cons_zero, List.getElem?_cons_succ, Option.getD_some]
          refine wpT_free hOps (v := ?vOp22) rfl (fun _ _ _ h => h) (yl rfl ?yOp22) ?_
          case yOp22 => (intro w hw; go_simp; first | done | rfl)
          simp only [Act.put, Act.eval, List.setIfInBounds_toArray, List.set_cons_zero, List.set_cons_succ, Array.getD_eq_getD_getElem?, List.getElem?_toArray, List.getElem?_cons_zero, List.getElem?_cons_succ, Option.getD_some]
          refine wpT_free hOps (v := ?vOp24) rfl (fun _ _ _ h => h) (yl rfl ?yOp24) ?_
          case yOp24 => (intro w hw; go_simp; first | done | rfl)
          simp only [Act.put, Act.eval, List.setIfInBounds_toArray, List.set_cons_zero, List.set_cons_succ, Array.getD_eq_getD_getElem?, List.getElem?_toArray, List.getElem?_cons_zero, List.getElem?_cons_succ, Option.getD_some]
          refine wpT_take hOps hS rfl (fun _ _ _ h => h) (yl_mid rfl 29 _ rfl rfl (v8 h.1.key) (by kernel_rfl) (by rw [v8_length, hkl.out]; exact size_key) (fun w hw => range_sub (((((HCV.out.more _).more _).more _).more _).elem el_hop hw HH.out) f4.out)) ?_
          simp only [Act.put, Act.eval, List.setIfInBounds_toArray, List.set_cons_zero, List.set_cons_succ, Array.getD_eq_getD_getElem?, List.getElem?_toArray, List.getElem?_cons_zero, List.getElem?_cons_succ, Option.getD_some]
          refine wpT_take hOps hS rfl (fun _ _ _ h => h) (yl_mid rfl 39 _ rfl (b := P) (off := 0) rfl p.cells (by kernel_rfl) (by rw [hpl.out]; exact size_pkt) (fun w hw => at_blk hw 1 rfl)) ?_
          simp only [Act.put, Act.eval, List.setIfInBounds_toArray, List.set_cons_zero, List.set_cons_succ, Array.getD_eq_getD_getElem?, List.getElem?_toArray, List.getElem?_cons_zero, List.getElem?_cons_succ, Option.getD_some]
          refine wpT_three hOps rfl rfl rfl rfl rfl rfl ?_ ?_ ?_
          all_goals intro K hK
          · refine wp_call _ _ _ rfl Tryd.func11 rfl (by kernel_rfl) ?_
            simp only [List.map_toArray, List.map_cons, List.map_nil, Act.eval, Array.getD_eq_getD_getElem?, List.getElem?_toArray, List.getElem?_cons_zero, List.getElem?_cons_succ, Option.getD_some]
            refine (peel_is G H hkl.out PO.out hpe.out rfl).mono ?_; rintro e' w' ⟨rfl, H⟩
            have hS := ((H))
            refine hK _ _ (.inr hS) ?_
            clear hK K
            simp only [Act.put, Act.eval, List.setIfInBounds_toArray, List.set_cons_zero, List.set_cons_succ, Array.getD_eq_getD_getElem?, List.getElem?_toArray, List.getElem?_cons_zero, List.getElem?_cons_succ, Option.getD_some]
            refine wpT_free hOps rfl (fun _ _ _ h => h) (yl_move rfl _ rfl) ?_
            simp only [Act.put, Act.eval, List.setIfInBounds_toArray, List.set_cons_zero, List.set_cons_succ, Array.getD_eq_getD_getElem?, List.getElem?_toArray, List.getElem?_cons_zero, List.getElem?_cons_succ, Option.getD_some]
            refine wpT_free hOps (v := ?vOp35) rfl (fun _ _ _ h => h) (yl rfl ?yOp35) ?_
            case yOp35 => (intro w hw; go_simp; first | done | rfl)
            simp only [Act.put, Act.eval, List.setIfInBounds_toArray, List.set_cons_zero, List.set_cons_succ, Array.getD_eq_getD_getElem?, List.getElem?_toArray, List.getElem?_cons_zero, List.getElem?_cons_succ, Option.getD_some]
            refine wpT_free hOps (v := ?vOp37) rfl (fun _ _ _ h => h) (yl rfl ?yOp37) ?_
            case yOp37 => (intro w hw; go_simp; first | done | rfl)
            simp only [Act.put, Act.eval, List.setIfInBounds_toArray, List.set_cons_zero, List.set_cons_succ, Array.getD_eq_getD_getElem?, List.getElem?_toArray, List.getElem?_cons_zero, List.getElem?_cons_succ, Option.getD_some]
            refine wpT_free hOps (v := ?vOp39) rfl (fun _ _ _ h => h) (yl rfl ?yOp39) ?_
            case yOp39 => (intro w hw; go_simp; first | done | rfl)
            simp only [Act.put, Act.eval, List.setIfInBounds_toArray, List.set_cons_zero, List.set_cons_succ, Array.getD_eq_getD_getElem?, List.getElem?_toArray, List.getElem?_cons_zero, List.getElem?_cons_succ, Option.getD_some]
            refine wpT_two hOps rfl rfl rfl rfl ?_ ?_
            all_goals intro K hK
            · refine wp_alloc_sl 45 rfl info_slot H (fun S1 w' H _ => ?_)
              replace H : At w0 (raw S1 SlotD.zero.cells.toArray 45 :: raw Q q.cells.toArray 39 :: raw P p.cells.toArray 39 :: raw Y (v8 y).toArray 24 :: raw X (v8 x).toArray 24 :: F) w' := H
              have hS := ((H.tail))
              refine hK _ _ (.inr hS) ?_
              clear hK K
              simp only [Act.put, Act.eval, List.setIfInBounds_toArray, List.set_cons_zero, List.set_cons_succ, Array.getD_eq_getD_getElem?, List.getElem?_toArray, List.getElem?_cons_zero, List.getElem?_cons_succ, Option.getD_some]
              refine wpT_next hOps rfl rfl ?_
              intro K hK
              refine wp_alloc_sl 39 rfl info_pkt H (fun P1 w' H _ => ?_)
              replace H : At w0 (raw P1 PktD.zero.cells.toArray 39 :: raw S1 SlotD.zero.cells.toArray 45 :: raw Q q.cells.toArray 39 :: raw P p.cells.toArray 39 :: raw Y (v8 y).toArray 24 :: raw X (v8 x).toArray 24 :: F) w' := H
              have hS := ((H.tail.tail))
              refine hK _ _ (.inr hS) ?_
              clear hK K
              simp only [Act.put, Act.eval, List.setIfInBounds_toArray, List.set_cons_zero, List.set_cons_succ, Array.getD_eq_getD_getElem?, List.getElem?_toArray, List.getElem?_cons_zero, List.getElem?_cons_succ, Option.getD_some]
              refine wpT_next hOps rfl rfl ?_
              intro K hK
              refine wp_store_row_sl 45 _ _ rfl (b := S1) (cells := s.cells.toArray) rfl rfl (by rw [List.size_toArray, hsl.out]; exact size_slot) (by simpa using SlotD.cells_one) 1 H rfl (by rw [List.size_toArray, List.size_toArray, hsl.out]; rfl) (fun w' H => ?_)
              replace H : At w0 (raw P1 PktD.zero.cells.toArray 39 :: raw S1 s.cells.toArray 45 :: raw Q q.cells.toArray 39 :: raw P p.cells.toArray 39 :: raw Y (v8 y).toArray 24 :: raw X (v8 x).toArray 24 :: F) w' := H
              have hS := ((H.tail.tail))
              refine hK _ _ (.inr hS) ?_
              clear hK K
              simp only [Act.put, Act.eval, List.setIfInBounds_toArray, List.set_cons_zero, List.set_cons_succ, Array.getD_eq_getD_getElem?, List.getElem?_toArray, List.getElem?_cons_zero, List.getElem?_cons_succ, Option.getD_some]
              refine wpT_next hOps rfl rfl ?_
              intro K hK
              refine wp_store_row_sl 39 _ _ rfl (b := P1) (cells := p'.cells.toArray) rfl rfl (by rw [List.size_toArray, hp2.out]; exact size_pkt) (by simpa using PktD.cells_one) 0 H rfl (by rw [List.size_toArray, List.size_toArray, hp2.out]; rfl) (fun w' H => ?_)
              replace H : At w0 (raw P1 p'.cells.toArray 39 :: raw S1 s.cells.toArray 45 :: raw Q q.cells.toArray 39 :: raw P p.cells.toArray 39 :: raw Y (v8 y).toArray 24 :: raw X (v8 x).toArray 24 :: F) w' := H
              have hS := ((H.tail.tail))
              refine hK _ _ (.inr hS) ?_
              clear hK K
              simp only [Act.put, Act.eval, List.setIfInBounds_toArray, List.set_cons_zero, List.set_cons_succ, Array.getD_eq_getD_getElem?, List.getElem?_toArray, List.getElem?_cons_zero, List.getElem?_cons_succ, Option.getD_some]
              refine wpT_next hOps rfl rfl ?_
              intro K hK
              refine wp_run rfl ?_
              have hS := (hS)
              refine hK _ _ (.inr hS) ?_
              clear hK K
              simp only [Act.put, Act.eval, List.setIfInBounds_toArray, List.set_cons_zero, List.set_cons_succ, Array.getD_eq_getD_getElem?, List.getElem?_toArray, List.getElem?_cons_zero, List.getElem?_cons_succ, Option.getD_some]
              refine wpT_end ?_
              clear hOps hS ops
              go_wp2_with fail
              go_meet
              case rel => exact ⟨_, _, rfl, rfl, rfl, H⟩
            · refine wp_alloc_sl 39 rfl info_pkt H (fun P1 w' H _ => ?_)
              replace H : At w0 (raw P1 PktD.zero.cells.toArray 39 :: raw Q q.cells.toArray 39 :: raw P p.cells.toArray 39 :: raw Y (v8 y).toArray 24 :: raw X (v8 x).toArray 24 :: F) w' := H
              have hS := ((H.tail))
              refine hK _ _ (.inr hS) ?_
              clear hK K
              simp only [Act.put, Act.eval, List.setIfInBounds_toArray, List.set_cons_zero, List.set_cons_succ, Array.getD_eq_getD_getElem?, List.getElem?_toArray, List.getElem?_cons_zero, List.getElem?_cons_succ, Option.getD_some]
              refine wpT_next hOps rfl rfl ?_
              intro K hK
              refine wp_alloc_sl 45 rfl info_slot H (fun S1 w' H _ => ?_)
              replace H : At w0 (raw S1 SlotD.zero.cells.toArray 45 :: raw P1 PktD.zero.cells.toArray 39 :: raw Q q.cells.toArray 39 :: raw P p.cells.toArray 39 :: raw Y (v8 y).toArray 24 :: raw X (v8 x).toArray 24 :: F) w' := H
              have hS := ((H.tail.tail))
              refine hK _ _ (.inr hS) ?_
              clear hK K
              simp only [Act.put, Act.eval, List.setIfInBounds_toArray, List.set_cons_zero, List.set_cons_succ, Array.getD_eq_getD_getElem?, List.getElem?_toArray, List.getElem?_cons_zero, List.getElem?_cons_succ, Option.getD_some]
              replace H := ((H).pull 1 rfl)
              refine wpT_next hOps rfl rfl ?_
              intro K hK
              refine wp_store_row_sl 45 _ _ rfl (b := S1) (cells := s.cells.toArray) rfl rfl (by rw [List.size_toArray, hsl.out]; exact size_slot) (by simpa using SlotD.cells_one) 1 H rfl (by rw [List.size_toArray, List.size_toArray, hsl.out]; rfl) (fun w' H => ?_)
              replace H : At w0 (raw P1 PktD.zero.cells.toArray 39 :: raw S1 s.cells.toArray 45 :: raw Q q.cells.toArray 39 :: raw P p.cells.toArray 39 :: raw Y (v8 y).toArray 24 :: raw X (v8 x).toArray 24 :: F) w' := H
              have hS := ((H.tail.tail))
              refine hK _ _ (.inr hS) ?_
              clear hK K
              simp only [Act.put, Act.eval, List.setIfInBounds_toArray, List.set_cons_zero, List.set_cons_succ, Array.getD_eq_getD_getElem?, List.getElem?_toArray, List.getElem?_cons_zero, List.getElem?_cons_succ, Option.getD_some]
              refine wpT_next hOps rfl rfl ?_
              intro K hK
              refine wp_store_row_sl 39 _ _ rfl (b := P1) (cells := p'.cells.toArray) rfl rfl (by rw [List.size_toArray, hp2.out]; exact size_pkt) (by simpa using PktD.cells_one) 0 H rfl (by rw [List.size_toArray, List.size_toArray, hp2.out]; rfl) (fun w' H => ?_)
              replace H : At w0 (raw P1 p'.cells.toArray 39 :: raw S1 s.cells.toArray 45 :: raw Q q.cells.toArray 39 :: raw P p.cells.toArray 39 :: raw Y (v8 y).toArray 24 :: raw X (v8 x).toArray 24 :: F) w' := H
              have hS := ((H.tail.tail))
              refine hK _ _ (.inr hS) ?_
              clear hK K
              simp only [Act.put, Act.eval, List.setIfInBounds_toArray, List.set_cons_zero, List.set_cons_succ, Array.getD_eq_getD_getElem?, List.getElem?_toArray, List.getElem?_cons_zero, List.getElem?_cons_succ, Option.getD_some]
              refine wpT_next hOps rfl rfl ?_
              intro K hK
              refine wp_run rfl ?_
              have hS := (hS)
              refine hK _ _ (.inr hS) ?_
              clear hK K
              simp only [Act.put, Act.eval, List.setIfInBounds_toArray, List.set_cons_zero, List.set_cons_succ, Array.getD_eq_getD_getElem?, List.getElem?_toArray, List.getElem?_cons_zero, List.getElem?_cons_succ, Option.getD_some]
              refine wpT_end ?_
              clear hOps hS ops
              go_wp2_with fail
              go_meet
              case rel => exact ⟨_, _, rfl, rfl, rfl, H⟩
          · refine wp_alloc_sl 45 rfl info_slot H (fun S1 w' H _ => ?_)
            replace H : At w0 (raw S1 SlotD.zero.cells.toArray 45 :: raw Q q.cells.toArray 39 :: raw P p.cells.toArray 39 :: raw Y (v8 y).toArray 24 :: raw X (v8 x).toArray 24 :: F) w' := H
            have hS := ((H.tail))
            refine hK _ _ (.inr hS) ?_
            clear hK K
            simp only [Act.put, Act.eval, List.setIfInBounds_toArray, List.set_cons_zero, List.set_cons_succ, Array.getD_eq_getD_getElem?, List.getElem?_toArray, List.getElem?_cons_zero, List.getElem?_cons_succ, Option.getD_some]
            refine wpT_two hOps rfl rfl rfl rfl ?_ ?_
            all_goals intro K hK
            · refine wp_call _ _ _ rfl Tryd.func11 rfl (by kernel_rfl) ?_
              simp only [List.map_toArray, List.map_cons, List.map_nil, Act.eval, Array.getD_eq_getD_getElem?, List.getElem?_toArray, List.getElem?_cons_zero, List.getElem?_cons_succ, Option.getD_some]
              refine (peel_is G H hkl.out PO.out hpe.out rfl).mono ?_; rintro e' w' ⟨rfl, H⟩
              have hS := ((H.tail))
              refine hK _ _ (.inr hS) ?_
              clear hK K
              simp only [Act.put, Act.eval, List.setIfInBounds_toArray, List.set_cons_zero, List.set_cons_succ, Array.getD_eq_getD_getElem?, List.getElem?_toArray, List.getElem?_cons_zero, List.getElem?_cons_succ, Option.getD_some]
              refine wpT_free hOps rfl (fun _ _ _ h => h) (yl_move rfl _ rfl) ?_
              simp only [Act.put, Act.eval, List.setIfInBounds_toArray, List.set_cons_zero, List.set_cons_succ, Array.getD_eq_getD_getElem?, List.getElem?_toArray, List.getElem?_cons_zero, List.getElem?_cons_succ, Option.getD_some]
              refine wpT_free hOps (v := ?vOp71) rfl (fun _ _ _ h => h) (yl rfl ?yOp71) ?_
              case yOp71 => (intro w hw; go_simp; first | done | rfl)
              simp only [Act.put, Act.eval, List.setIfInBounds_toArray, List.set_cons_zero, List.set_cons_succ, Array.getD_eq_getD_getElem?, List.getElem?_toArray, List.getElem?_cons_zero, List.getElem?_cons_succ, Option.getD_some]
              refine wpT_free hOps (v := ?vOp73) rfl (fun _ _ _ h => h) (yl rfl ?yOp73) ?_
              case yOp73 => (intro w hw; go_simp; first | done | rfl)
              simp only [Act.put, Act.eval, List.setIfInBounds_toArray, List.set_cons_zero, List.set_cons_succ, Array.getD_eq_getD_getElem?, List.getElem?_toArray, List.getElem?_cons_zero, List.getElem?_cons_succ, Option.getD_some]
              refine wpT_free hOps (v := ?vOp75) rfl (fun _ _ _ h => h) (yl rfl ?yOp75) ?_
              case yOp75 => (intro w hw; go_simp; first | done | rfl)
              simp only [Act.put, Act.eval, List.setIfInBounds_toArray, List.set_cons_zero, List.set_cons_succ, Array.getD_eq_getD_getElem?, List.getElem?_toArray, List.getElem?_cons_zero, List.getElem?_cons_succ, Option.getD_some]
              refine wpT_next hOps rfl rfl ?_
              intro K hK
              refine wp_alloc_sl 39 rfl info_pkt H (fun P1 w' H _ => ?_)
              replace H : At w0 (raw P1 PktD.zero.cells.toArray 39 :: raw S1 SlotD.zero.cells.toArray 45 :: raw Q q.cells.toArray 39 :: raw P p.cells.toArray 39 :: raw Y (v8 y).toArray 24 :: raw X (v8 x).toArray 24 :: F) w' := H
              have hS := ((H.tail.tail))
              refine hK _ _ (.inr hS) ?_
              clear hK K
              simp only [Act.put, Act.eval, List.setIfInBounds_toArray, List.set_cons_zero, List.set_cons_succ, Array.getD_eq_getD_getElem?, List.getElem?_toArray, List.getElem?_cons_zero, List.getElem?_cons_succ, Option.getD_some]
              refine wpT_next hOps rfl rfl ?_
              intro K hK
              refine wp_store_row_sl 45 _ _ rfl (b := S1) (cells := s.cells.toArray) rfl rfl (by rw [List.size_toArray, hsl.out]; exact size_slot) (by simpa using SlotD.cells_one) 1 H rfl (by rw [List.size_toArray, List.size_toArray, hsl.out]; rfl) (fun w' H => ?_)
              replace H : At w0 (raw P1 PktD.zero.cells.toArray 39 :: raw S1 s.cells.toArray 45 :: raw Q q.cells.toArray 39 :: raw P p.cells.toArray 39 :: raw Y (v8 y).toArray 24 :: raw X (v8 x).toArray 24 :: F) w' := H
              have hS := ((H.tail.tail))
              refine hK _ _ (.inr hS) ?_
              clear hK K
              simp only [Act.put, Act.eval, List.setIfInBounds_toArray, List.set_cons_zero, List.set_cons_succ, Array.getD_eq_getD_getElem?, List.getElem?_toArray, List.getElem?_cons_zero, List.getElem?_cons_succ, Option.getD_some]
              refine wpT_next hOps rfl rfl ?_
              intro K hK
              refine wp_store_row_sl 39 _ _ rfl (b := P1) (cells := p'.cells.toArray) rfl rfl (by rw [List.size_toArray, hp2.out]; exact size_pkt) (by simpa using PktD.cells_one) 0 H rfl (by rw [List.size_toArray, List.size_toArray, hp2.out]; rfl) (fun w' H => ?_)
              replace H : At w0 (raw P1 p'.cells.toArray 39 :: raw S1 s.cells.toArray 45 :: raw Q q.cells.toArray 39 :: raw P p.cells.toArray 39 :: raw Y (v8 y).toArray 24 :: raw X (v8 x).toArray 24 :: F) w' := H
              have hS := ((H.tail.tail))
              refine hK _ _ (.inr hS) ?_
              clear hK K
              simp only [Act.put, Act.eval, List.setIfInBounds_toArray, List.set_cons_zero, List.set_cons_succ, Array.getD_eq_getD_getElem?, List.getElem?_toArray, List.getElem?_cons_zero, List.getElem?_cons_succ, Option.getD_some]
              refine wpT_next hOps rfl rfl ?_
              intro K hK
              refine wp_run rfl ?_
              have hS := (hS)
              refine hK _ _ (.inr hS) ?_
              clear hK K
              simp only [Act.put, Act.eval, List.setIfInBounds_toArray, List.set_cons_zero, List.set_cons_succ, Array.getD_eq_getD_getElem?, List.getElem?_toArray, List.getElem?_cons_zero, List.getElem?_cons_succ, Option.getD_some]
              refine wpT_end ?_
              clear hOps hS ops
              go_wp2_with fail
              go_meet
              case rel => exact ⟨_, _, rfl, rfl, rfl, H⟩
            · refine wp_alloc_sl 39 rfl info_pkt H (fun P1 w' H _ => ?_)
              replace H : At w0 (raw P1 PktD.zero.cells.toArray 39 :: raw S1 SlotD.zero.cells.toArray 45 :: raw Q q.cells.toArray 39 :: raw P p.cells.toArray 39 :: raw Y (v8 y).toArray 24 :: raw X (v8 x).toArray 24 :: F) w' := H
              have hS := ((H.tail.tail))
              refine hK _ _ (.inr hS) ?_
              clear hK K
              simp only [Act.put, Act.eval, List.setIfInBounds_toArray, List.set_cons_zero, List.set_cons_succ, Array.getD_eq_getD_getElem?, List.getElem?_toArray, List.getElem?_cons_zero, List.getElem?_cons_succ, Option.getD_some]
              refine wpT_next hOps rfl rfl ?_
              intro K hK
              refine wp_call _ _ _ rfl Tryd.func11 rfl (by kernel_rfl) ?_
              simp only [List.map_toArray, List.map_cons, List.map_nil, Act.eval, Array.getD_eq_getD_getElem?, List.getElem?_toArray, List.getElem?_cons_zero, List.getElem?_cons_succ, Option.getD_some]
              refine (peel_is G H hkl.out PO.out hpe.out rfl).mono ?_; rintro e' w' ⟨rfl, H⟩
              have hS := ((H.tail.tail))
              refine hK _ _ (.inr hS) ?_
              clear hK K
              simp only [Act.put, Act.eval, List.setIfInBounds_toArray, List.set_cons_zero, List.set_cons_succ, Array.getD_eq_getD_getElem?, List.getElem?_toArray, List.getElem?_cons_zero, List.getElem?_cons_succ, Option.getD_some]
              refine wpT_free hOps rfl (fun _ _ _ h => h) (yl_move rfl _ rfl) ?_
              simp only [Act.put, Act.eval, List.setIfInBounds_toArray, List.set_cons_zero, List.set_cons_succ, Array.getD_eq_getD_getElem?, List.getElem?_toArray, List.getElem?_cons_zero, List.getElem?_cons_succ, Option.getD_some]
              refine wpT_free hOps (v := ?vOp93) rfl (fun _ _ _ h => h) (yl rfl ?yOp93) ?_
              case yOp93 => (intro w hw; go_simp; first | done | rfl)
              simp only [Act.put, Act.eval, List.setIfInBounds_toArray, List.set_cons_zero, List.set_cons_succ, Array.getD_eq_getD_getElem?, List.getElem?_toArray, List.getElem?_cons_zero, List.getElem?_cons_succ, Option.getD_some]
              refine wpT_free hOps (v := ?vOp95) rfl (fun _ _ _ h => h) (yl rfl ?yOp95) ?_
              case yOp95 => (intro w hw; go_simp; first | done | rfl)
              simp only [Act.put, Act.eval, List.setIfInBounds_toArray, List.set_cons_zero, List.set_cons_succ, Array.getD_eq_getD_getElem?, List.getElem?_toArray, List.getElem?_cons_zero, List.getElem?_cons_succ, Option.getD_some]
              refine wpT_free hOps (v := ?vOp97) rfl (fun _ _ _ h => h) (yl rfl ?yOp97) ?_
              case yOp97 => (intro w hw; go_simp; first | done | rfl)
              simp only [Act.put, Act.eval, List.setIfInBounds_toArray, List.set_cons_zero, List.set_cons_succ, Array.getD_eq_getD_getElem?, List.getElem?_toArray, List.getElem?_cons_zero, List.getElem?_cons_succ, Option.getD_some]
              refine wpT_next hOps rfl rfl ?_
              intro K hK
              refine wp_store_row_sl 45 _ _ rfl (b := S1) (cells := s.cells.toArray) rfl rfl (by rw [List.size_toArray, hsl.out]; exact size_slot) (by simpa using SlotD.cells_one) 1 H rfl (by rw [List.size_toArray, List.size_toArray, hsl.out]; rfl) (fun w' H => ?_)
              replace H : At w0 (raw P1 PktD.zero.cells.toArray 39 :: raw S1 s.cells.toArray 45 :: raw Q q.cells.toArray 39 :: raw P p.cells.toArray 39 :: raw Y (v8 y).toArray 24 :: raw X (v8 x).toArray 24 :: F) w' := H
              have hS := ((H.tail.tail))
              refine hK _ _ (.inr hS) ?_
              clear hK K
              simp only [Act.put, Act.eval, List.setIfInBounds_toArray, List.set_cons_zero, List.set_cons_succ, Array.getD_eq_getD_getElem?, List.getElem?_toArray, List.getElem?_cons_zero, List.getElem?_cons_succ, Option.getD_some]
              refine wpT_next hOps rfl rfl ?_
              intro K hK
              refine wp_store_row_sl 39 _ _ rfl (b := P1) (cells := p'.cells.toArray) rfl rfl (by rw [List.size_toArray, hp2.out]; exact size_pkt) (by simpa using PktD.cells_one) 0 H rfl (by rw [List.size_toArray, List.size_toArray, hp2.out]; rfl) (fun w' H => ?_)
              replace H : At w0 (raw P1 p'.cells.toArray 39 :: raw S1 s.cells.toArray 45 :: raw Q q.cells.toArray 39 :: raw P p.cells.toArray 39 :: raw Y (v8 y).toArray 24 :: raw X (v8 x).toArray 24 :: F) w' := H
              have hS := ((H.tail.tail))
              refine hK _ _ (.inr hS) ?_
              clear hK K
              simp only [Act.put, Act.eval, List.setIfInBounds_toArray, List.set_cons_zero, List.set_cons_succ, Array.getD_eq_getD_getElem?, List.getElem?_toArray, List.getElem?_cons_zero, List.getElem?_cons_succ, Option.getD_some]
              refine wpT_next hOps rfl rfl ?_
              intro K hK
              refine wp_run rfl ?_
              have hS := (hS)
              refine hK _ _ (.inr hS) ?_
              clear hK K
              simp only [Act.put, Act.eval, List.setIfInBounds_toArray, List.set_cons_zero, List.set_cons_succ, Array.getD_eq_getD_getElem?, List.getElem?_toArray, List.getElem?_cons_zero, List.getElem?_cons_succ, Option.getD_some]
              refine wpT_end ?_
              clear hOps hS ops
              go_wp2_with fail
              go_meet
              case rel => exact ⟨_, _, rfl, rfl, rfl, H⟩
          · refine wp_alloc_sl 39 rfl info_pkt H (fun P1 w' H _ => ?_)
            replace H : At w0 (raw P1 PktD.zero.cells.toArray 39 :: raw Q q.cells.toArray 39 :: raw P p.cells.toArray 39 :: raw Y (v8 y).toArray 24 :: raw X (v8 x).toArray 24 :: F) w' := H
            have hS := ((H.tail))
            refine hK _ _ (.inr hS) ?_
            clear hK K
            simp only [Act.put, Act.eval, List.setIfInBounds_toArray, List.set_cons_zero, List.set_cons_succ, Array.getD_eq_getD_getElem?, List.getElem?_toArray, List.getElem?_cons_zero, List.getElem?_cons_succ, Option.getD_some]
            refine wpT_two hOps rfl rfl rfl rfl ?_ ?_
            all_goals intro K hK
            · refine wp_call _ _ _ rfl Tryd.func11 rfl (by kernel_rfl) ?_
              simp only [List.map_toArray, List.map_cons, List.map_nil, Act.eval, Array.getD_eq_getD_getElem?, List.getElem?_toArray, List.getElem?_cons_zero, List.getElem?_cons_succ, Option.getD_some]
              refine (peel_is G H hkl.out PO.out hpe.out rfl).mono ?_; rintro e' w' ⟨rfl, H⟩
              have hS := ((H.tail))
              refine hK _ _ (.inr hS) ?_
              clear hK K
              simp only [Act.put, Act.eval, List.setIfInBounds_toArray, List.set_cons_zero, List.set_cons_succ, Array.getD_eq_getD_getElem?, List.getElem?_toArray, List.getElem?_cons_zero, List.getElem?_cons_succ, Option.getD_some]
              refine wpT_free hOps rfl (fun _ _ _ h => h) (yl_move rfl _ rfl) ?_
              simp only [Act.put, Act.eval, List.setIfInBounds_toArray, List.set_cons_zero, List.set_cons_succ, Array.getD_eq_getD_getElem?, List.getElem?_toArray, List.getElem?_cons_zero, List.getElem?_cons_succ, Option.getD_some]
              refine wpT_free hOps (v := ?vOp112) rfl (fun _ _ _ h => h) (yl rfl ?yOp112) ?_
              case yOp112 => (intro w hw; go_simp; first | done | rfl)
              simp only [Act.put, Act.eval, List.setIfInBounds_toArray, List.set_cons_zero, List.set_cons_succ, Array.getD_eq_getD_getElem?, List.getElem?_toArray, List.getElem?_cons_zero, List.getElem?_cons_succ, Option.getD_some]
              refine wpT_free hOps (v := ?vOp114) rfl (fun _ _ _ h => h) (yl rfl ?yOp114) ?_
              case yOp114 => (intro w hw; go_simp; first | done | rfl)
              simp only [Act.put, Act.eval, List.setIfInBounds_toArray, List.set_cons_zero, List.set_cons_succ, Array.getD_eq_getD_getElem?, List.getElem?_toArray, List.getElem?_cons_zero, List.getElem?_cons_succ, Option.getD_some]
              refine wpT_free hOps (v := ?vOp116) rfl (fun _ _ _ h => h) (yl rfl ?yOp116) ?_
              case yOp116 => (intro w hw; go_simp; first | done | rfl)
              simp only [Act.put, Act.eval, List.setIfInBounds_toArray, List.set_cons_zero, List.set_cons_succ, Array.getD_eq_getD_getElem?, List.getElem?_toArray, List.getElem?_cons_zero, List.getElem?_cons_succ, Option.getD_some]
              refine wpT_next hOps rfl rfl ?_
              intro K hK
              refine wp_alloc_sl 45 rfl info_slot H (fun S1 w' H _ => ?_)
              replace H : At w0 (raw S1 SlotD.zero.cells.toArray 45 :: raw P1 PktD.zero.cells.toArray 39 :: raw Q q.cells.toArray 39 :: raw P p.cells.toArray 39 :: raw Y (v8 y).toArray 24 :: raw X (v8 x).toArray 24 :: F) w' := H
              have hS := ((H.tail.tail))
              refine hK _ _ (.inr hS) ?_
              clear hK K
              simp only [Act.put, Act.eval, List.setIfInBounds_toArray, List.set_cons_zero, List.set_cons_succ, Array.getD_eq_getD_getElem?, List.getElem?_toArray, List.getElem?_cons_zero, List.getElem?_cons_succ, Option.getD_some]
              replace H := ((H).pull 1 rfl)
              refine wpT_next hOps rfl rfl ?_
              intro K hK
              refine wp_store_row_sl 45 _ _ rfl (b := S1) (cells := s.cells.toArray) rfl rfl (by rw [List.size_toArray, hsl.out]; exact size_slot) (by simpa using SlotD.cells_one) 1 H rfl (by rw [List.size_toArray, List.size_toArray, hsl.out]; rfl) (fun w' H => ?_)
              replace H : At w0 (raw P1 PktD.zero.cells.toArray 39 :: raw S1 s.cells.toArray 45 :: raw Q q.cells.toArray 39 :: raw P p.cells.toArray 39 :: raw Y (v8 y).toArray 24 :: raw X (v8 x).toArray 24 :: F) w' := H
              have hS := ((H.tail.tail))
              refine hK _ _ (.inr hS) ?_
              clear hK K
              simp only [Act.put, Act.eval, List.setIfInBounds_toArray, List.set_cons_zero, List.set_cons_succ, Array.getD_eq_getD_getElem?, List.getElem?_toArray, List.getElem?_cons_zero, List.getElem?_cons_succ, Option.getD_some]
              refine wpT_next hOps rfl rfl ?_
              intro K hK
              refine wp_store_row_sl 39 _ _ rfl (b := P1) (cells := p'.cells.toArray) rfl rfl (by rw [List.size_toArray, hp2.out]; exact size_pkt) (by simpa using PktD.cells_one) 0 H rfl (by rw [List.size_toArray, List.size_toArray, hp2.out]; rfl) (fun w' H => ?_)
              replace H : At w0 (raw P1 p'.cells.toArray 39 :: raw S1 s.cells.toArray 45 :: raw Q q.cells.toArray 39 :: raw P p.cells.toArray 39 :: raw Y (v8 y).toArray 24 :: raw X (v8 x).toArray 24 :: F) w' := H
              have hS := ((H.tail.tail))
              refine hK _ _ (.inr hS) ?_
              clear hK K
              simp only [Act.put, Act.eval, List.setIfInBounds_toArray, List.set_cons_zero, List.set_cons_succ, Array.getD_eq_getD_getElem?, List.getElem?_toArray, List.getElem?_cons_zero, List.getElem?_cons_succ, Option.getD_some]
              refine wpT_next hOps rfl rfl ?_
              intro K hK
              refine wp_run rfl ?_
              have hS := (hS)
              refine hK _ _ (.inr hS) ?_
              clear hK K
              simp only [Act.put, Act.eval, List.setIfInBounds_toArray, List.set_cons_zero, List.set_cons_succ, Array.getD_eq_getD_getElem?, List.getElem?_toArray, List.getElem?_cons_zero, List.getElem?_cons_succ, Option.getD_some]
              refine wpT_end ?_
              clear hOps hS ops
              go_wp2_with fail
              go_meet
              case rel => exact ⟨_, _, rfl, rfl, rfl, H⟩
            · refine wp_alloc_sl 45 rfl info_slot H (fun S1 w' H _ => ?_)
              replace H : At w0 (raw S1 SlotD.zero.cells.toArray 45 :: raw P1 PktD.zero.cells.toArray 39 :: raw Q q.cells.toArray 39 :: raw P p.cells.toArray 39 :: raw Y (v8 y).toArray 24 :: raw X (v8 x).toArray 24 :: F) w' := H
              have hS := ((H.tail.tail))
              refine hK _ _ (.inr hS) ?_
              clear hK K
              simp only [Act.put, Act.eval, List.setIfInBounds_toArray, List.set_cons_zero, List.set_cons_succ, Array.getD_eq_getD_getElem?, List.getElem?_toArray, List.getElem?_cons_zero, List.getElem?_cons_succ, Option.getD_some]
              replace H := ((H).pull 1 rfl)
              refine wpT_next hOps rfl rfl ?_
              intro K hK
              refine wp_call _ _ _ rfl Tryd.func11 rfl (by kernel_rfl) ?_
              simp only [List.map_toArray, List.map_cons, List.map_nil, Act.eval, Array.getD_eq_getD_getElem?, List.getElem?_toArray, List.getElem?_cons_zero, List.getElem?_cons_succ, Option.getD_some]
              refine (peel_is G H hkl.out PO.out hpe.out rfl).mono ?_; rintro e' w' ⟨rfl, H⟩
              have hS := ((H.tail.tail))
              refine hK _ _ (.inr hS) ?_
              clear hK K
              simp only [Act.put, Act.eval, List.setIfInBounds_toArray, List.set_cons_zero, List.set_cons_succ, Array.getD_eq_getD_getElem?, List.getElem?_toArray, List.getElem?_cons_zero, List.getElem?_cons_succ, Option.getD_some]
              refine wpT_free hOps rfl (fun _ _ _ h => h) (yl_move rfl _ rfl) ?_
              simp only [Act.put, Act.eval, List.setIfInBounds_toArray, List.set_cons_zero, List.set_cons_succ, Array.getD_eq_getD_getElem?, List.getElem?_toArray, List.getElem?_cons_zero, List.getElem?_cons_succ, Option.getD_some]
              refine wpT_free hOps (v := ?vOp134) rfl (fun _ _ _ h => h) (yl rfl ?yOp134) ?_
              case yOp134 => (intro w hw; go_simp; first | done | rfl)
              simp only [Act.put, Act.eval, List.setIfInBounds_toArray, List.set_cons_zero, List.set_cons_succ, Array.getD_eq_getD_getElem?, List.getElem?_toArray, List.getElem?_cons_zero, List.getElem?_cons_succ, Option.getD_some]
              refine wpT_free hOps (v := ?vOp136) rfl (fun _ _ _ h => h) (yl rfl ?yOp136) ?_
              case yOp136 => (intro w hw; go_simp; first | done | rfl)
              simp only [Act.put, Act.eval, List.setIfInBounds_toArray, List.set_cons_zero, List.set_cons_succ, Array.getD_eq_getD_getElem?, List.getElem?_toArray, List.getElem?_cons_zero, List.getElem?_cons_succ, Option.getD_some]
              refine wpT_free hOps (v := ?vOp138) rfl (fun _ _ _ h => h) (yl rfl ?yOp138) ?_
              case yOp138 => (intro w hw; go_simp; first | done | rfl)
              simp only [Act.put, Act.eval, List.setIfInBounds_toArray, List.set_cons_zero, List.set_cons_succ, Array.getD_eq_getD_getElem?, List.getElem?_toArray, List.getElem?_cons_zero, List.getElem?_cons_succ, Option.getD_some]
              refine wpT_next hOps rfl rfl ?_
              intro K hK
              refine wp_store_row_sl 45 _ _ rfl (b := S1) (cells := s.cells.toArray) rfl rfl (by rw [List.size_toArray, hsl.out]; exact size_slot) (by simpa using SlotD.cells_one) 1 H rfl (by rw [List.size_toArray, List.size_toArray, hsl.out]; rfl) (fun w' H => ?_)
              replace H : At w0 (raw P1 PktD.zero.cells.toArray 39 :: raw S1 s.cells.toArray 45 :: raw Q q.cells.toArray 39 :: raw P p.cells.toArray 39 :: raw Y (v8 y).toArray 24 :: raw X (v8 x).toArray 24 :: F) w' := H
              have hS := ((H.tail.tail))
              refine hK _ _ (.inr hS) ?_
              clear hK K
              simp only [Act.put, Act.eval, List.setIfInBounds_toArray, List.set_cons_zero, List.set_cons_succ, Array.getD_eq_getD_getElem?, List.getElem?_toArray, List.getElem?_cons_zero, List.getElem?_cons_succ, Option.getD_some]
              refine wpT_next hOps rfl rfl ?_
              intro K hK
              refine wp_store_row_sl 39 _ _ rfl (b := P1) (cells := p'.cells.toArray) rfl rfl (by rw [List.size_toArray, hp2.out]; exact size_pkt) (by simpa using PktD.cells_one) 0 H rfl (by rw [List.size_toArray, List.size_toArray, hp2.out]; rfl) (fun w' H => ?_)
              replace H : At w0 (raw P1 p'.cells.toArray 39 :: raw S1 s.cells.toArray 45 :: raw Q q.cells.toArray 39 :: raw P p.cells.toArray 39 :: raw Y (v8 y).toArray 24 :: raw X (v8 x).toArray 24 :: F) w' := H
              have hS := ((H.tail.tail))
              refine hK _ _ (.inr hS) ?_
              clear hK K
              simp only [Act.put, Act.eval, List.setIfInBounds_toArray, List.set_cons_zero, List.set_cons_succ, Array.getD_eq_getD_getElem?, List.getElem?_toArray, List.getElem?_cons_zero, List.getElem?_cons_succ, Option.getD_some]
              refine wpT_next hOps rfl rfl ?_
              intro K hK
              refine wp_run rfl ?_
              have hS := (hS)
              refine hK _ _ (.inr hS) ?_
              clear hK K
              simp only [Act.put, Act.eval, List.setIfInBounds_toArray, List.set_cons_zero, List.set_cons_succ, Array.getD_eq_getD_getElem?, List.getElem?_toArray, List.getElem?_cons_zero, List.getElem?_cons_succ, Option.getD_some]
              refine wpT_end ?_
              clear hOps hS ops
              go_wp2_with fail
              go_meet
              case rel => exact ⟨_, _, rfl, rfl, rfl, H⟩
        case rest =>
          obtain ⟨S1, P1, rfl, rfl, rfl, H⟩ := hcut
          go_wp2_with fail
          go_cut [18, 19, 20] from 66 to 76 (fun s1 s2 s3 wr => ∃ T1 Q1, s1 = .pointer (some ⟨T1, 0, none⟩) ∧ s2 = .pointer (some ⟨Q1, 0, none⟩) ∧ s3 = .int .i64 0 ∧ At w0 (raw Q1 q'.cells.toArray 39 :: raw T1 t.cells.toArray 45 :: raw P1 p'.cells.toArray 39 :: raw S1 s.cells.toArray 45 :: raw Q q.cells.toArray 39 :: raw P p.cells.toArray 39 :: raw Y (v8 y).toArray 24 :: raw X (v8 x).toArray 24 :: F) wr)
          case first =>
            go_wp2_with fail
            refine wpT_begin [13, 14] ((At w0 (raw P1 p'.cells.toArray 39 :: raw S1 s.cells.toArray 45 :: raw Q q.cells.toArray 39 :: raw P p.cells.toArray 39 :: raw Y (v8 y).toArray 24 :: raw X (v8 x).toArray 24 :: F))) (Tr.of [(0, 2), (1, 2), (2, 2), (3, 2), (4, 1), (5, 1)] (.three 6 11 12 (Tr.of [(7, 2), (8, 2), (9, 2), (10, 2)] (.two 11 12 (Tr.of [(12, 0), (13, 0), (14, 0), (15, 0)] .nil) (Tr.of [(11, 0), (13, 0), (14, 0), (15, 0)] .nil))) (.two 6 12 (Tr.of [(7, 2), (8, 2), (9, 2), (10, 2), (12, 0), (13, 0), (14, 0), (15, 0)] .nil) (Tr.of [(6, 0), (7, 2), (8, 2), (9, 2), (10, 2), (13, 0), (14, 0), (15, 0)] .nil)) (.two 6 11 (Tr.of [(7, 2), (8, 2), (9, 2), (10, 2), (11, 0), (13, 0), (14, 0), (15, 0)] .nil) (Tr.of [(6, 0), (7, 2), (8, 2), (9, 2), (10, 2), (13, 0), (14, 0), (15, 0)] .nil)))) rfl (by kernel_rfl) (by kernel_rfl) ((H.drew)) ?_
            intro ops hOps hS
            replace H := H.drew
            refine wpT_free hOps rfl (fun _ _ _ h => h) (yl_move rfl _ rfl) ?_
            simp only [Act.put, Act.eval, List.setIfInBounds_toArray, List.set_cons_zero, List.set_cons_succ, Array.getD_eq_getD_getElem?, List.getElem?_toArray, List.getElem?_cons_zero, List.getElem?_cons_succ, Option.getD_some]
            refine wpT_free hOps rfl (fun _ _ _ h => h) (yl_move rfl _ rfl) ?_
            simp only [Act.put, Act.eval, List.setIfInBounds_toArray, List.set_cons_zero, List.set_cons_succ, Array.getD_eq_getD_getElem?, List.getElem?_toArray, List.getElem?_cons_zero, List.getElem?_cons_succ, Option.getD_some]
            refine wpT_free hOps (v := ?vOp153) rfl (fun _ _ _ h => h) (yl rfl ?yOp153) ?_
            case yOp153 => (intro w hw; go_simp; first | done | rfl)
            simp only [Act.put, Act.eval, List.setIfInBounds_toArray, List.set_cons_zero, List.set_cons_succ, Array.getD_eq_getD_getElem?, List.getElem?_toArray, List.getElem?_cons_zero, List.getElem?_cons_succ, Option.getD_some]
            refine wpT_free hOps (v := ?vOp155) rfl (fun _ _ _ h => h) (yl rfl ?yOp155) ?_
            case yOp155 => (intro w hw; go_simp; first | done | rfl)
            simp only [Act.put, Act.eval, List.setIfInBounds_toArray, List.set_cons_zero, List.set_cons_succ, Array.getD_eq_getD_getElem?, List.getElem?_toArray, List.getElem?_cons_zero, List.getElem?_cons_succ, Option.getD_some]
            refine wpT_take hOps hS rfl (fun _ _ _ h => h) (yl_mid rfl 29 _ rfl rfl (v8 h.1.key) (by kernel_rfl) (by rw [v8_length, hkl.out]; exact size_key) (fun w hw => range_sub (((((((HCV.out.more _).more _).more _).more _).more _).more _).elem el_hop hw HH.out) f4.out)) ?_
            simp only [Act.put, Act.eval, List.setIfInBounds_toArray, List.set_cons_zero, List.set_cons_succ, Array.getD_eq_getD_getElem?, List.getElem?_toArray, List.getElem?_cons_zero, List.getElem?_cons_succ, Option.getD_some]
            refine wpT_take hOps hS rfl (fun _ _ _ h => h) (yl_mid rfl 39 _ rfl (b := Q) (off := 0) rfl q.cells (by kernel_rfl) (by rw [hql.out]; exact size_pkt) (fun w hw => at_blk hw 2 rfl)) ?_
            simp only [Act.put, Act.eval, List.setIfInBounds_toArray, List.set_cons_zero, List.set_cons_succ, Array.getD_eq_getD_getElem?, List.getElem?_toArray, List.getElem?_cons_zero, List.getElem?_cons_succ, Option.getD_some]
            refine wpT_three hOps rfl rfl rfl rfl rfl rfl ?_ ?_ ?_
            all_goals intro K hK
            · refine wp_call _ _ _ rfl Tryd.func11 rfl (by kernel_rfl) ?_
              simp only [List.map_toArray, List.map_cons, List.map_nil, Act.eval, Array.getD_eq_getD_getElem?, List.getElem?_toArray, List.getElem?_cons_zero, List.getElem?_cons_succ, Option.getD_some]
              refine (peel_is G H hkl.out QO.out hqe.out rfl).mono ?_; rintro e' w' ⟨rfl, H⟩
              have hS := ((H))
              refine hK _ _ (.inr hS) ?_
              clear hK K
              simp only [Act.put, Act.eval, List.setIfInBounds_toArray, List.set_cons_zero, List.set_cons_succ, Array.getD_eq_getD_getElem?, List.getElem?_toArray, List.getElem?_cons_zero, List.getElem?_cons_succ, Option.getD_some]
              refine wpT_free hOps rfl (fun _ _ _ h => h) (yl_move rfl _ rfl) ?_
              simp only [Act.put, Act.eval, List.setIfInBounds_toArray, List.set_cons_zero, List.set_cons_succ, Array.getD_eq_getD_getElem?, List.getElem?_toArray, List.getElem?_cons_zero, List.getElem?_cons_succ, Option.getD_some]
              refine wpT_free hOps (v := ?vOp166) rfl (fun _ _ _ h => h) (yl rfl ?yOp166) ?_
              case yOp166 => (intro w hw; go_simp; first | done | rfl)
              simp only [Act.put, Act.eval, List.setIfInBounds_toArray, List.set_cons_zero, List.set_cons_succ, Array.getD_eq_getD_getElem?, List.getElem?_toArray, List.getElem?_cons_zero, List.getElem?_cons_succ, Option.getD_some]
              refine wpT_free hOps (v := ?vOp168) rfl (fun _ _ _ h => h) (yl rfl ?yOp168) ?_
              case yOp168 => (intro w hw; go_simp; first | done | rfl)
              simp only [Act.put, Act.eval, List.setIfInBounds_toArray, List.set_cons_zero, List.set_cons_succ, Array.getD_eq_getD_getElem?, List.getElem?_toArray, List.getElem?_cons_zero, List.getElem?_cons_succ, Option.getD_some]
              refine wpT_free hOps (v := ?vOp170) rfl (fun _ _ _ h => h) (yl rfl ?yOp170) ?_
              case yOp170 => (intro w hw; go_simp; first | done | rfl)
              simp only [Act.put, Act.eval, List.setIfInBounds_toArray, List.set_cons_zero, List.set_cons_succ, Array.getD_eq_getD_getElem?, List.getElem?_toArray, List.getElem?_cons_zero, List.getElem?_cons_succ, Option.getD_some]
              refine wpT_two hOps rfl rfl rfl rfl ?_ ?_
              all_goals intro K hK
              · refine wp_alloc_sl 45 rfl info_slot H (fun T1 w' H _ => ?_)
                replace H : At w0 (raw T1 SlotD.zero.cells.toArray 45 :: raw P1 p'.cells.toArray 39 :: raw S1 s.cells.toArray 45 :: raw Q q.cells.toArray 39 :: raw P p.cells.toArray 39 :: raw Y (v8 y).toArray 24 :: raw X (v8 x).toArray 24 :: F) w' := H
                have hS := ((H.tail))
                refine hK _ _ (.inr hS) ?_
                clear hK K
                simp only [Act.put, Act.eval, List.setIfInBounds_toArray, List.set_cons_zero, List.set_cons_succ, Array.getD_eq_getD_getElem?, List.getElem?_toArray, List.getElem?_cons_zero, List.getElem?_cons_succ, Option.getD_some]
                refine wpT_next hOps rfl rfl ?_
                intro K hK
                refine wp_alloc_sl 39 rfl info_pkt H (fun Q1 w' H _ => ?_)
                replace H : At w0 (raw Q1 PktD.zero.cells.toArray 39 :: raw T1 SlotD.zero.cells.toArray 45 :: raw P1 p'.cells.toArray 39 :: raw S1 s.cells.toArray 45 :: raw Q q.cells.toArray 39 :: raw P p.cells.toArray 39 :: raw Y (v8 y).toArray 24 :: raw X (v8 x).toArray 24 :: F) w' := H
                have hS := ((H.tail.tail))
                refine hK _ _ (.inr hS) ?_
                clear hK K
                simp only [Act.put, Act.eval, List.setIfInBounds_toArray, List.set_cons_zero, List.set_cons_succ, Array.getD_eq_getD_getElem?, List.getElem?_toArray, List.getElem?_cons_zero, List.getElem?_cons_succ, Option.getD_some]
                refine wpT_next hOps rfl rfl ?_
                intro K hK
                refine wp_store_row_sl 45 _ _ rfl (b := T1) (cells := t.cells.toArray) rfl rfl (by rw [List.size_toArray, htl.out]; exact size_slot) (by simpa using SlotD.cells_one) 1 H rfl (by rw [List.size_toArray, List.size_toArray, htl.out]; rfl) (fun w' H => ?_)
                replace H : At w0 (raw Q1 PktD.zero.cells.toArray 39 :: raw T1 t.cells.toArray 45 :: raw P1 p'.cells.toArray 39 :: raw S1 s.cells.toArray 45 :: raw Q q.cells.toArray 39 :: raw P p.cells.toArray 39 :: raw Y (v8 y).toArray 24 :: raw X (v8 x).toArray 24 :: F) w' := H
                have hS := ((H.tail.tail))
                refine hK _ _ (.inr hS) ?_
                clear hK K
                simp only [Act.put, Act.eval, List.setIfInBounds_toArray, List.set_cons_zero, List.set_cons_succ, Array.getD_eq_getD_getElem?, List.getElem?_toArray, List.getElem?_cons_zero, List.getElem?_cons_succ, Option.getD_some]
                refine wpT_next hOps rfl rfl ?_
                intro K hK
                refine wp_store_row_sl 39 _ _ rfl (b := Q1) (cells := q'.cells.toArray) rfl rfl (by rw [List.size_toArray, hq2.out]; exact size_pkt) (by simpa using PktD.cells_one) 0 H rfl (by rw [List.size_toArray, List.size_toArray, hq2.out]; rfl) (fun w' H => ?_)
                replace H : At w0 (raw Q1 q'.cells.toArray 39 :: raw T1 t.cells.toArray 45 :: raw P1 p'.cells.toArray 39 :: raw S1 s.cells.toArray 45 :: raw Q q.cells.toArray 39 :: raw P p.cells.toArray 39 :: raw Y (v8 y).toArray 24 :: raw X (v8 x).toArray 24 :: F) w' := H
                have hS := ((H.tail.tail))
                refine hK _ _ (.inr hS) ?_
                clear hK K
                simp only [Act.put, Act.eval, List.setIfInBounds_toArray, List.set_cons_zero, List.set_cons_succ, Array.getD_eq_getD_getElem?, List.getElem?_toArray, List.getElem?_cons_zero, List.getElem?_cons_succ, Option.getD_some]
                refine wpT_next hOps rfl rfl ?_
                intro K hK
                refine wp_run rfl ?_
                have hS := (hS)
                refine hK _ _ (.inr hS) ?_
                clear hK K
                simp only [Act.put, Act.eval, List.setIfInBounds_toArray, List.set_cons_zero, List.set_cons_succ, Array.getD_eq_getD_getElem?, List.getElem?_toArray, List.getElem?_cons_zero, List.getElem?_cons_succ, Option.getD_some]
                refine wpT_end ?_
                clear hOps hS ops
                go_wp2_with fail
                go_meet
                case rel => exact ⟨_, _, rfl, rfl, rfl, H⟩
              · refine wp_alloc_sl 39 rfl info_pkt H (fun Q1 w' H _ => ?_)
                replace H : At w0 (raw Q1 PktD.zero.cells.toArray 39 :: raw P1 p'.cells.toArray 39 :: raw S1 s.cells.toArray 45 :: raw Q q.cells.toArray 39 :: raw P p.cells.toArray 39 :: raw Y (v8 y).toArray 24 :: raw X (v8 x).toArray 24 :: F) w' := H
                have hS := ((H.tail))
                refine hK _ _ (.inr hS) ?_
                clear hK K
                simp only [Act.put, Act.eval, List.setIfInBounds_toArray, List.set_cons_zero, List.set_cons_succ, Array.getD_eq_getD_getElem?, List.getElem?_toArray, List.getElem?_cons_zero, List.getElem?_cons_succ, Option.getD_some]
                refine wpT_next hOps rfl rfl ?_
                intro K hK
                refine wp_alloc_sl 45 rfl info_slot H (fun T1 w' H _ => ?_)
                replace H : At w0 (raw T1 SlotD.zero.cells.toArray 45 :: raw Q1 PktD.zero.cells.toArray 39 :: raw P1 p'.cells.toArray 39 :: raw S1 s.cells.toArray 45 :: raw Q q.cells.toArray 39 :: raw P p.cells.toArray 39 :: raw Y (v8 y).toArray 24 :: raw X (v8 x).toArray 24 :: F) w' := H
                have hS := ((H.tail.tail))
                refine hK _ _ (.inr hS) ?_
                clear hK K
                simp only [Act.put, Act.eval, List.setIfInBounds_toArray, List.set_cons_zero, List.set_cons_succ, Array.getD_eq_getD_getElem?, List.getElem?_toArray, List.getElem?_cons_zero, List.getElem?_cons_succ, Option.getD_some]
                replace H := ((H).pull 1 rfl)
                refine wpT_next hOps rfl rfl ?_
                intro K hK
                refine wp_store_row_sl 45 _ _ rfl (b := T1) (cells := t.cells.toArray) rfl rfl (by rw [List.size_toArray, htl.out]; exact size_slot) (by simpa using SlotD.cells_one) 1 H rfl (by rw [List.size_toArray, List.size_toArray, htl.out]; rfl) (fun w' H => ?_)
                replace H : At w0 (raw Q1 PktD.zero.cells.toArray 39 :: raw T1 t.cells.toArray 45 :: raw P1 p'.cells.toArray 39 :: raw S1 s.cells.toArray 45 :: raw Q q.cells.toArray 39 :: raw P p.cells.toArray 39 :: raw Y (v8 y).toArray 24 :: raw X (v8 x).toArray 24 :: F) w' := H
                have hS := ((H.tail.tail))
                refine hK _ _ (.inr hS) ?_
                clear hK K
                simp only [Act.put, Act.eval, List.setIfInBounds_toArray, List.set_cons_zero, List.set_cons_succ, Array.getD_eq_getD_getElem?, List.getElem?_toArray, List.getElem?_cons_zero, List.getElem?_cons_succ, Option.getD_some]
                refine wpT_next hOps rfl rfl ?_
                intro K hK
                refine wp_store_row_sl 39 _ _ rfl (b := Q1) (cells := q'.cells.toArray) rfl rfl (by rw [List.size_toArray, hq2.out]; exact size_pkt) (by simpa using PktD.cells_one) 0 H rfl (by rw [List.size_toArray, List.size_toArray, hq2.out]; rfl) (fun w' H => ?_)
                replace H : At w0 (raw Q1 q'.cells.toArray 39 :: raw T1 t.cells.toArray 45 :: raw P1 p'.cells.toArray 39 :: raw S1 s.cells.toArray 45 :: raw Q q.cells.toArray 39 :: raw P p.cells.toArray 39 :: raw Y (v8 y).toArray 24 :: raw X (v8 x).toArray 24 :: F) w' := H
                have hS := ((H.tail.tail))
                refine hK _ _ (.inr hS) ?_
                clear hK K
                simp only [Act.put, Act.eval, List.setIfInBounds_toArray, List.set_cons_zero, List.set_cons_succ, Array.getD_eq_getD_getElem?, List.getElem?_toArray, List.getElem?_cons_zero, List.getElem?_cons_succ, Option.getD_some]
                refine wpT_next hOps rfl rfl ?_
                intro K hK
                refine wp_run rfl ?_
                have hS := (hS)
                refine hK _ _ (.inr hS) ?_
                clear hK K
                simp only [Act.put, Act.eval, List.setIfInBounds_toArray, List.set_cons_zero, List.set_cons_succ, Array.getD_eq_getD_getElem?, List.getElem?_toArray, List.getElem?_cons_zero, List.getElem?_cons_succ, Option.getD_some]
                refine wpT_end ?_
                clear hOps hS ops
                go_wp2_with fail
                go_meet
                case rel => exact ⟨_, _, rfl, rfl, rfl, H⟩
            · refine wp_alloc_sl 45 rfl info_slot H (fun T1 w' H _ => ?_)
              replace H : At w0 (raw T1 SlotD.zero.cells.toArray 45 :: raw P1 p'.cells.toArray 39 :: raw S1 s.cells.toArray 45 :: raw Q q.cells.toArray 39 :: raw P p.cells.toArray 39 :: raw Y (v8 y).toArray 24 :: raw X (v8 x).toArray 24 :: F) w' := H
              have hS := ((H.tail))
              refine hK _ _ (.inr hS) ?_
              clear hK K
              simp only [Act.put, Act.eval, List.setIfInBounds_toArray, List.set_cons_zero, List.set_cons_succ, Array.getD_eq_getD_getElem?, List.getElem?_toArray, List.getElem?_cons_zero, List.getElem?_cons_succ, Option.getD_some]
              refine wpT_two hOps rfl rfl rfl rfl ?_ ?_
              all_goals intro K hK
              · refine wp_call _ _ _ rfl Tryd.func11 rfl (by kernel_rfl) ?_
                simp only [List.map_toArray, List.map_cons, List.map_nil, Act.eval, Array.getD_eq_getD_getElem?, List.getElem?_toArray, List.getElem?_cons_zero, List.getElem?_cons_succ, Option.getD_some]
                refine (peel_is G H hkl.out QO.out hqe.out rfl).mono ?_; rintro e' w' ⟨rfl, H⟩
                have hS := ((H.tail))
                refine hK _ _ (.inr hS) ?_
                clear hK K
                simp only [Act.put, Act.eval, List.setIfInBounds_toArray, List.set_cons_zero, List.set_cons_succ, Array.getD_eq_getD_getElem?, List.getElem?_toArray, List.getElem?_cons_zero, List.getElem?_cons_succ, Option.getD_some]
                refine wpT_free hOps rfl (fun _ _ _ h => h) (yl_move rfl _ rfl) ?_
                simp only [Act.put, Act.eval, List.setIfInBounds_toArray, List.set_cons_zero, List.set_cons_succ, Array.getD_eq_getD_getElem?, List.getElem?_toArray, List.getElem?_cons_zero, List.getElem?_cons_succ, Option.getD_some]
                refine wpT_free hOps (v := ?vOp202) rfl (fun _ _ _ h => h) (yl rfl ?yOp202) ?_
                case yOp202 => (intro w hw; go_simp; first | done | rfl)
                simp only [Act.put, Act.eval, List.setIfInBounds_toArray, List.set_cons_zero, List.set_cons_succ, Array.getD_eq_getD_getElem?, List.getElem?_toArray, List.getElem?_cons_zero, List.getElem?_cons_succ, Option.getD_some]
                refine wpT_free hOps (v := ?vOp204) rfl (fun _ _ _ h => h) (yl rfl ?yOp204) ?_
                case yOp204 => (intro w hw; go_simp; first | done | rfl)
                simp only [Act.put, Act.eval, List.setIfInBounds_toArray, List.set_cons_zero, List.set_cons_succ, Array.getD_eq_getD_getElem?, List.getElem?_toArray, List.getElem?_cons_zero, List.getElem?_cons_succ, Option.getD_some]
                refine wpT_free hOps (v := ?vOp206) rfl (fun _ _ _ h => h) (yl rfl ?yOp206) ?_
                case yOp206 => (intro w hw; go_simp; first | done | rfl)
                simp only [Act.put, Act.eval, List.setIfInBounds_toArray, List.set_cons_zero, List.set_cons_succ, Array.getD_eq_getD_getElem?, List.getElem?_toArray, List.getElem?_cons_zero, List.getElem?_cons_succ, Option.getD_some]
                refine wpT_next hOps rfl rfl ?_
                intro K hK
                refine wp_alloc_sl 39 rfl info_pkt H (fun Q1 w' H _ => ?_)
                replace H : At w0 (raw Q1 PktD.zero.cells.toArray 39 :: raw T1 SlotD.zero.cells.toArray 45 :: raw P1 p'.cells.toArray 39 :: raw S1 s.cells.toArray 45 :: raw Q q.cells.toArray 39 :: raw P p.cells.toArray 39 :: raw Y (v8 y).toArray 24 :: raw X (v8 x).toArray 24 :: F) w' := H
                have hS := ((H.tail.tail))
                refine hK _ _ (.inr hS) ?_
                clear hK K
                simp only [Act.put, Act.eval, List.setIfInBounds_toArray, List.set_cons_zero, List.set_cons_succ, Array.getD_eq_getD_getElem?, List.getElem?_toArray, List.getElem?_cons_zero, List.getElem?_cons_succ, Option.getD_some]
                refine wpT_next hOps rfl rfl ?_
                intro K hK
                refine wp_store_row_sl 45 _ _ rfl (b := T1) (cells := t.cells.toArray) rfl rfl (by rw [List.size_toArray, htl.out]; exact size_slot) (by simpa using SlotD.cells_one) 1 H rfl (by rw [List.size_toArray, List.size_toArray, htl.out]; rfl) (fun w' H => ?_)
                replace H : At w0 (raw Q1 PktD.zero.cells.toArray 39 :: raw T1 t.cells.toArray 45 :: raw P1 p'.cells.toArray 39 :: raw S1 s.cells.toArray 45 :: raw Q q.cells.toArray 39 :: raw P p.cells.toArray 39 :: raw Y (v8 y).toArray 24 :: raw X (v8 x).toArray 24 :: F) w' := H
                have hS := ((H.tail.tail))
                refine hK _ _ (.inr hS) ?_
                clear hK K
                simp only [Act.put, Act.eval, List.setIfInBounds_toArray, List.set_cons_zero, List.set_cons_succ, Array.getD_eq_getD_getElem?, List.getElem?_toArray, List.getElem?_cons_zero, List.getElem?_cons_succ, Option.getD_some]
                refine wpT_next hOps rfl rfl ?_
                intro K hK
                refine wp_store_row_sl 39 _ _ rfl (b := Q1) (cells := q'.cells.toArray) rfl rfl (by rw [List.size_toArray, hq2.out]; exact size_pkt) (by simpa using PktD.cells_one) 0 H rfl (by rw [List.size_toArray, List.size_toArray, hq2.out]; rfl) (fun w' H => ?_)
                replace H : At w0 (raw Q1 q'.cells.toArray 39 :: raw T1 t.cells.toArray 45 :: raw P1 p'.cells.toArray 39 :: raw S1 s.cells.toArray 45 :: raw Q q.cells.toArray 39 :: raw P p.cells.toArray 39 :: raw Y (v8 y).toArray 24 :: raw X (v8 x).toArray 24 :: F) w' := H
                have hS := ((H.tail.tail))
                refine hK _ _ (.inr hS) ?_
                clear hK K
                simp only [Act.put, Act.eval, List.setIfInBounds_toArray, List.set_cons_zero, List.set_cons_succ, Array.getD_eq_getD_getElem?, List.getElem?_toArray, List.getElem?_cons_zero, List.getElem?_cons_succ, Option.getD_some]
                refine wpT_next hOps rfl rfl ?_
                intro K hK
                refine wp_run rfl ?_
                have hS := (hS)
                refine hK _ _ (.inr hS) ?_
                clear hK K
                simp only [Act.put, Act.eval, List.setIfInBounds_toArray, List.set_cons_zero, List.set_cons_succ, Array.getD_eq_getD_getElem?, List.getElem?_toArray, List.getElem?_cons_zero, List.getElem?_cons_succ, Option.getD_some]
                refine wpT_end ?_
                clear hOps hS ops
                go_wp2_with fail
                go_meet
                case rel => exact ⟨_, _, rfl, rfl, rfl, H⟩
              · refine wp_alloc_sl 39 rfl info_pkt H (fun Q1 w' H _ => ?_)
                replace H : At w0 (raw Q1 PktD.zero.cells.toArray 39 :: raw T1 SlotD.zero.cells.toArray 45 :: raw P1 p'.cells.toArray 39 :: raw S1 s.cells.toArray 45 :: raw Q q.cells.toArray 39 :: raw P p.cells.toArray 39 :: raw Y (v8 y).toArray 24 :: raw X (v8 x).toArray 24 :: F) w' := H
                have hS := ((H.tail.tail))
                refine hK _ _ (.inr hS) ?_
                clear hK K
                simp only [Act.put, Act.eval, List.setIfInBounds_toArray, List.set_cons_zero, List.set_cons_succ, Array.getD_eq_getD_getElem?, List.getElem?_toArray, List.getElem?_cons_zero, List.getElem?_cons_succ, Option.getD_some]
                refine wpT_next hOps rfl rfl ?_
                intro K hK
                refine wp_call _ _ _ rfl Tryd.func11 rfl (by kernel_rfl) ?_
                simp only [List.map_toArray, List.map_cons, List.map_nil, Act.eval, Array.getD_eq_getD_getElem?, List.getElem?_toArray, List.getElem?_cons_zero, List.getElem?_cons_succ, Option.getD_some]
                refine (peel_is G H hkl.out QO.out hqe.out rfl).mono ?_; rintro e' w' ⟨rfl, H⟩
                have hS := ((H.tail.tail))
                refine hK _ _ (.inr hS) ?_
                clear hK K
                simp only [Act.put, Act.eval, List.setIfInBounds_toArray, List.set_cons_zero, List.set_cons_succ, Array.getD_eq_getD_getElem?, List.getElem?_toArray, List.getElem?_cons_zero, List.getElem?_cons_succ, Option.getD_some]
                refine wpT_free hOps rfl (fun _ _ _ h => h) (yl_move rfl _ rfl) ?_
                simp only [Act.put, Act.eval, List.setIfInBounds_toArray, List.set_cons_zero, List.set_cons_succ, Array.getD_eq_getD_getElem?, List.getElem?_toArray, List.getElem?_cons_zero, List.getElem?_cons_succ, Option.getD_some]
                refine wpT_free hOps (v := ?vOp224) rfl (fun _ _ _ h => h) (yl rfl ?yOp224) ?_
                case yOp224 => (intro w hw; go_simp; first | done | rfl)
                simp only [Act.put, Act.eval, List.setIfInBounds_toArray, List.set_cons_zero, List.set_cons_succ, Array.getD_eq_getD_getElem?, List.getElem?_toArray, List.getElem?_cons_zero, List.getElem?_cons_succ, Option.getD_some]
                refine wpT_free hOps (v := ?vOp226) rfl (fun _ _ _ h => h) (yl rfl ?yOp226) ?_
                case yOp226 => (intro w hw; go_simp; first | done | rfl)
                simp only [Act.put, Act.eval, List.setIfInBounds_toArray, List.set_cons_zero, List.set_cons_succ, Array.getD_eq_getD_getElem?, List.getElem?_toArray, List.getElem?_cons_zero, List.getElem?_cons_succ, Option.getD_some]
                refine wpT_free hOps (v := ?vOp228) rfl (fun _ _ _ h => h) (yl rfl ?yOp228) ?_
                case yOp228 => (intro w hw; go_simp; first | done | rfl)
                simp only [Act.put, Act.eval, List.setIfInBounds_toArray, List.set_cons_zero, List.set_cons_succ, Array.getD_eq_getD_getElem?, List.getElem?_toArray, List.getElem?_cons_zero, List.getElem?_cons_succ, Option.getD_some]
                refine wpT_next hOps rfl rfl ?_
                intro K hK
                refine wp_store_row_sl 45 _ _ rfl (b := T1) (cells := t.cells.toArray) rfl rfl (by rw [List.size_toArray, htl.out]; exact size_slot) (by simpa using SlotD.cells_one) 1 H rfl (by rw [List.size_toArray, List.size_toArray, htl.out]; rfl) (fun w' H => ?_)
                replace H : At w0 (raw Q1 PktD.zero.cells.toArray 39 :: raw T1 t.cells.toArray 45 :: raw P1 p'.cells.toArray 39 :: raw S1 s.cells.toArray 45 :: raw Q q.cells.toArray 39 :: raw P p.cells.toArray 39 :: raw Y (v8 y).toArray 24 :: raw X (v8 x).toArray 24 :: F) w' := H
                have hS := ((H.tail.tail))
                refine hK _ _ (.inr hS) ?_
                clear hK K
                simp only [Act.put, Act.eval, List.setIfInBounds_toArray, List.set_cons_zero, List.set_cons_succ, Array.getD_eq_getD_getElem?, List.getElem?_toArray, List.getElem?_cons_zero, List.getElem?_cons_succ, Option.getD_some]
                refine wpT_next hOps rfl rfl ?_
                intro K hK
                refine wp_store_row_sl 39 _ _ rfl (b := Q1) (cells := q'.cells.toArray) rfl rfl (by rw [List.size_toArray, hq2.out]; exact size_pkt) (by simpa using PktD.cells_one) 0 H rfl (by rw [List.size_toArray, List.size_toArray, hq2.out]; rfl) (fun w' H => ?_)
                replace H : At w0 (raw Q1 q'.cells.toArray 39 :: raw T1 t.cells.toArray 45 :: raw P1 p'.cells.toArray 39 :: raw S1 s.cells.toArray 45 :: raw Q q.cells.toArray 39 :: raw P p.cells.toArray 39 :: raw Y (v8 y).toArray 24 :: raw X (v8 x).toArray 24 :: F) w' := H
                have hS := ((H.tail.tail))
                refine hK _ _ (.inr hS) ?_
                clear hK K
                simp only [Act.put, Act.eval, List.setIfInBounds_toArray, List.set_cons_zero, List.set_cons_succ, Array.getD_eq_getD_getElem?, List.getElem?_toArray, List.getElem?_cons_zero, List.getElem?_cons_succ, Option.getD_some]
                refine wpT_next hOps rfl rfl ?_
                intro K hK
                refine wp_run rfl ?_
                have hS := (hS)
                refine hK _ _ (.inr hS) ?_
                clear hK K
                simp only [Act.put, Act.eval, List.setIfInBounds_toArray, List.set_cons_zero, List.set_cons_succ, Array.getD_eq_getD_getElem?, List.getElem?_toArray, List.getElem?_cons_zero, List.getElem?_cons_succ, Option.getD_some]
                refine wpT_end ?_
                clear hOps hS ops
                go_wp2_with fail
                go_meet
                case rel => exact ⟨_, _, rfl, rfl, rfl, H⟩
            · refine wp_alloc_sl 39 rfl info_pkt H (fun Q1 w' H _ => ?_)
              replace H : At w0 (raw Q1 PktD.zero.cells.toArray 39 :: raw P1 p'.cells.toArray 39 :: raw S1 s.cells.toArray 45 :: raw Q q.cells.toArray 39 :: raw P p.cells.toArray 39 :: raw Y (v8 y).toArray 24 :: raw X (v8 x).toArray 24 :: F) w' := H
              have hS := ((H.tail))
              refine hK _ _ (.inr hS) ?_
              clear hK K
              simp only [Act.put, Act.eval, List.setIfInBounds_toArray, List.set_cons_zero, List.set_cons_succ, Array.getD_eq_getD_getElem?, List.getElem?_toArray, List.getElem?_cons_zero, List.getElem?_cons_succ, Option.getD_some]
              refine wpT_two hOps rfl rfl rfl rfl ?_ ?_
              all_goals intro K hK
              · refine wp_call _ _ _ rfl Tryd.func11 rfl (by kernel_rfl) ?_
                simp only [List.map_toArray, List.map_cons, List.map_nil, Act.eval, Array.getD_eq_getD_getElem?, List.getElem?_toArray, List.getElem?_cons_zero, List.getElem?_cons_succ, Option.getD_some]
                refine (peel_is G H hkl.out QO.out hqe.out rfl).mono ?_; rintro e' w' ⟨rfl, H⟩
                have hS := ((H.tail))
                refine hK _ _ (.inr hS) ?_
                clear hK K
                simp only [Act.put, Act.eval, List.setIfInBounds_toArray, List.set_cons_zero, List.set_cons_succ, Array.getD_eq_getD_getElem?, List.getElem?_toArray, List.getElem?_cons_zero, List.getElem?_cons_succ, Option.getD_some]
                refine wpT_free hOps rfl (fun _ _ _ h => h) (yl_move rfl _ rfl) ?_
                simp only [Act.put, Act.eval, List.setIfInBounds_toArray, List.set_cons_zero, List.set_cons_succ, Array.getD_eq_getD_getElem?, List.getElem?_toArray, List.getElem?_cons_zero, List.getElem?_cons_succ, Option.getD_some]
                refine wpT_free hOps (v := ?vOp243) rfl (fun _ _ _ h => h) (yl rfl ?yOp243) ?_
                case yOp243 => (intro w hw; go_simp; first | done | rfl)
                simp only [Act.put, Act.eval, List.setIfInBounds_toArray, List.set_cons_zero, List.set_cons_succ, Array.getD_eq_getD_getElem?, List.getElem?_toArray, List.getElem?_cons_zero, List.getElem?_cons_succ, Option.getD_some]
                refine wpT_free hOps (v := ?vOp245) rfl (fun _ _ _ h => h) (yl rfl ?yOp245) ?_
                case yOp245 => (intro w hw; go_simp; first | done | rfl)
                simp only [Act.put, Act.eval, List.setIfInBounds_toArray, List.set_cons_zero, List.set_cons_succ, Array.getD_eq_getD_getElem?, List.getElem?_toArray, List.getElem?_cons_zero, List.getElem?_cons_succ, Option.getD_some]
                refine wpT_free hOps (v := ?vOp247) rfl (fun _ _ _ h => h) (yl rfl ?yOp247) ?_
                case yOp247 => (intro w hw; go_simp; first | done | rfl)
                simp only [Act.put, Act.eval, List.setIfInBounds_toArray, List.set_cons_zero, List.set_cons_succ, Array.getD_eq_getD_getElem?, List.getElem?_toArray, List.getElem?_cons_zero, List.getElem?_cons_succ, Option.getD_some]
                refine wpT_next hOps rfl rfl ?_
                intro K hK
                refine wp_alloc_sl 45 rfl info_slot H (fun T1 w' H _ => ?_)
                replace H : At w0 (raw T1 SlotD.zero.cells.toArray 45 :: raw Q1 PktD.zero.cells.toArray 39 :: raw P1 p'.cells.toArray 39 :: raw S1 s.cells.toArray 45 :: raw Q q.cells.toArray 39 :: raw P p.cells.toArray 39 :: raw Y (v8 y).toArray 24 :: raw X (v8 x).toArray 24 :: F) w' := H
                have hS := ((H.tail.tail))
                refine hK _ _ (.inr hS) ?_
                clear hK K
                simp only [Act.put, Act.eval, List.setIfInBounds_toArray, List.set_cons_zero, List.set_cons_succ, Array.getD_eq_getD_getElem?, List.getElem?_toArray, List.getElem?_cons_zero, List.getElem?_cons_succ, Option.getD_some]
                replace H := ((H).pull 1 rfl)
                refine wpT_next hOps rfl rfl ?_
                intro K hK
                refine wp_store_row_sl 45 _ _ rfl (b := T1) (cells := t.cells.toArray) rfl rfl (by rw [List.size_toArray, htl.out]; exact size_slot) (by simpa using SlotD.cells_one) 1 H rfl (by rw [List.size_toArray, List.size_toArray, htl.out]; rfl) (fun w' H => ?_)
                replace H : At w0 (raw Q1 PktD.zero.cells.toArray 39 :: raw T1 t.cells.toArray 45 :: raw P1 p'.cells.toArray 39 :: raw S1 s.cells.toArray 45 :: raw Q q.cells.toArray 39 :: raw P p.cells.toArray 39 :: raw Y (v8 y).toArray 24 :: raw X (v8 x).toArray 24 :: F) w' := H
                have hS := ((H.tail.tail))
                refine hK _ _ (.inr hS) ?_
                clear hK K
                simp only [Act.put, Act.eval, List.setIfInBounds_toArray, List.set_cons_zero, List.set_cons_succ, Array.getD_eq_getD_getElem?, List.getElem?_toArray, List.getElem?_cons_zero, List.getElem?_cons_succ, Option.getD_some]
                refine wpT_next hOps rfl rfl ?_
                intro K hK
                refine wp_store_row_sl 39 _ _ rfl (b := Q1) (cells := q'.cells.toArray) rfl rfl (by rw [List.size_toArray, hq2.out]; exact size_pkt) (by simpa using PktD.cells_one) 0 H rfl (by rw [List.size_toArray, List.size_toArray, hq2.out]; rfl) (fun w' H => ?_)
                replace H : At w0 (raw Q1 q'.cells.toArray 39 :: raw T1 t.cells.toArray 45 :: raw P1 p'.cells.toArray 39 :: raw S1 s.cells.toArray 45 :: raw Q q.cells.toArray 39 :: raw P p.cells.toArray 39 :: raw Y (v8 y).toArray 24 :: raw X (v8 x).toArray 24 :: F) w' := H
                have hS := ((H.tail.tail))
                refine hK _ _ (.inr hS) ?_
                clear hK K
                simp only [Act.put, Act.eval, List.setIfInBounds_toArray, List.set_cons_zero, List.set_cons_succ, Array.getD_eq_getD_getElem?, List.getElem?_toArray, List.getElem?_cons_zero, List.getElem?_cons_succ, Option.getD_some]
                refine wpT_next hOps rfl rfl ?_
                intro K hK
                refine wp_run rfl ?_
                have hS := (hS)
                refine hK _ _ (.inr hS) ?_
                clear hK K
                simp only [Act.put, Act.eval, List.setIfInBounds_toArray, List.set_cons_zero, List.set_cons_succ, Array.getD_eq_getD_getElem?, List.getElem?_toArray, List.getElem?_cons_zero, List.getElem?_cons_succ, Option.getD_some]
                refine wpT_end ?_
                clear hOps hS ops
                go_wp2_with fail
                go_meet
                case rel => exact ⟨_, _, rfl, rfl, rfl, H⟩
              · refine wp_alloc_sl 45 rfl info_slot H (fun T1 w' H _ => ?_)
                replace H : At w0 (raw T1 SlotD.zero.cells.toArray 45 :: raw Q1 PktD.zero.cells.toArray 39 :: raw P1 p'.cells.toArray 39 :: raw S1 s.cells.toArray 45 :: raw Q q.cells.toArray 39 :: raw P p.cells.toArray 39 :: raw Y (v8 y).toArray 24 :: raw X (v8 x).toArray 24 :: F) w' := H
                have hS := ((H.tail.tail))
                refine hK _ _ (.inr hS) ?_
                clear hK K
                simp only [Act.put, Act.eval, List.setIfInBounds_toArray, List.set_cons_zero, List.set_cons_succ, Array.getD_eq_getD_getElem?, List.getElem?_toArray, List.getElem?_cons_zero, List.getElem?_cons_succ, Option.getD_some]
                replace H := ((H).pull 1 rfl)
                refine wpT_next hOps rfl rfl ?_
                intro K hK
                refine wp_call _ _ _ rfl Tryd.func11 rfl (by kernel_rfl) ?_
                simp only [List.map_toArray, List.map_cons, List.map_nil, Act.eval, Array.getD_eq_getD_getElem?, List.getElem?_toArray, List.getElem?_cons_zero, List.getElem?_cons_succ, Option.getD_some]
                refine (peel_is G H hkl.out QO.out hqe.out rfl).mono ?_; rintro e' w' ⟨rfl, H⟩
                have hS := ((H.tail.tail))
                refine hK _ _ (.inr hS) ?_
                clear hK K
                simp only [Act.put, Act.eval, List.setIfInBounds_toArray, List.set_cons_zero, List.set_cons_succ, Array.getD_eq_getD_getElem?, List.getElem?_toArray, List.getElem?_cons_zero, List.getElem?_cons_succ, Option.getD_some]
                refine wpT_free hOps rfl (fun _ _ _ h => h) (yl_move rfl _ rfl) ?_
                simp only [Act.put, Act.eval, List.setIfInBounds_toArray, List.set_cons_zero, List.set_cons_succ, Array.getD_eq_getD_getElem?, List.getElem?_toArray, List.getElem?_cons_zero, List.getElem?_cons_succ, Option.getD_some]
                refine wpT_free hOps (v := ?vOp265) rfl (fun _ _ _ h => h) (yl rfl ?yOp265) ?_
                case yOp265 => (intro w hw; go_simp; first | done | rfl)
                simp only [Act.put, Act.eval, List.setIfInBounds_toArray, List.set_cons_zero, List.set_cons_succ, Array.getD_eq_getD_getElem?, List.getElem?_toArray, List.getElem?_cons_zero, List.getElem?_cons_succ, Option.getD_some]
                refine wpT_free hOps (v := ?vOp267) rfl (fun _ _ _ h => h) (yl rfl ?yOp267) ?_
                case yOp267 => (intro w hw; go_simp; first | done | rfl)
                simp only [Act.put, Act.eval, List.setIfInBounds_toArray, List.set_cons_zero, List.set_cons_succ, Array.getD_eq_getD_getElem?, List.getElem?_toArray, List.getElem?_cons_zero, List.getElem?_cons_succ, Option.getD_some]
                refine wpT_free hOps (v := ?vOp269) rfl (fun _ _ _ h => h) (yl rfl ?yOp269) ?_
                case yOp269 => (intro w hw; go_simp; first | done | rfl)
                simp only [Act.put, Act.eval, List.setIfInBounds_toArray, List.set_cons_zero, List.set_cons_succ, Array.getD_eq_getD_getElem?, List.getElem?_toArray, List.getElem?_cons_zero, List.getElem?_cons_succ, Option.getD_some]
                refine wpT_next hOps rfl rfl ?_
                intro K hK
                refine wp_store_row_sl 45 _ _ rfl (b := T1) (cells := t.cells.toArray) rfl rfl (by rw [List.size_toArray, htl.out]; exact size_slot) (by simpa using SlotD.cells_one) 1 H rfl (by rw [List.size_toArray, List.size_toArray, htl.out]; rfl) (fun w' H => ?_)
                replace H : At w0 (raw Q1 PktD.zero.cells.toArray 39 :: raw T1 t.cells.toArray 45 :: raw P1 p'.cells.toArray 39 :: raw S1 s.cells.toArray 45 :: raw Q q.cells.toArray 39 :: raw P p.cells.toArray 39 :: raw Y (v8 y).toArray 24 :: raw X (v8 x).toArray 24 :: F) w' := H
                have hS := ((H.tail.tail))
                refine hK _ _ (.inr hS) ?_
                clear hK K
                simp only [Act.put, Act.eval, List.setIfInBounds_toArray, List.set_cons_zero, List.set_cons_succ, Array.getD_eq_getD_getElem?, List.getElem?_toArray, List.getElem?_cons_zero, List.getElem?_cons_succ, Option.getD_some]
                refine wpT_next hOps rfl rfl ?_
                intro K hK
                refine wp_store_row_sl 39 _ _ rfl (b := Q1) (cells := q'.cells.toArray) rfl rfl (by rw [List.size_toArray, hq2.out]; exact size_pkt) (by simpa using PktD.cells_one) 0 H rfl (by rw [List.size_toArray, List.size_toArray, hq2.out]; rfl) (fun w' H => ?_)
                replace H : At w0 (raw Q1 q'.cells.toArray 39 :: raw T1 t.cells.toArray 45 :: raw P1 p'.cells.toArray 39 :: raw S1 s.cells.toArray 45 :: raw Q q.cells.toArray 39 :: raw P p.cells.toArray 39 :: raw Y (v8 y).toArray 24 :: raw X (v8 x).toArray 24 :: F) w' := H
                have hS := ((H.tail.tail))
                refine hK _ _ (.inr hS) ?_
                clear hK K
                simp only [Act.put, Act.eval, List.setIfInBounds_toArray, List.set_cons_zero, List.set_cons_succ, Array.getD_eq_getD_getElem?, List.getElem?_toArray, List.getElem?_cons_zero, List.getElem?_cons_succ, Option.getD_some]
                refine wpT_next hOps rfl rfl ?_
                intro K hK
                refine wp_run rfl ?_
                have hS := (hS)
                refine hK _ _ (.inr hS) ?_
                clear hK K
                simp only [Act.put, Act.eval, List.setIfInBounds_toArray, List.set_cons_zero, List.set_cons_succ, Array.getD_eq_getD_getElem?, List.getElem?_toArray, List.getElem?_cons_zero, List.getElem?_cons_succ, Option.getD_some]
                refine wpT_end ?_
                clear hOps hS ops
                go_wp2_with fail
                go_meet
                case rel => exact ⟨_, _, rfl, rfl, rfl, H⟩
          case rest =>
            obtain ⟨T1, Q1, rfl, rfl, rfl, H⟩ := hcut
            go_wp2_with ((with_reducible refine wpList_op rfl ?_); intro _ hK; first
              | (refine dst_is 77 rfl ?_; refine Hg.wp_build 36 _ rfl (by rw [Array.toList_map]; rfl) (built_mac0 _) (hK _ _ ?_))
              | (refine sto_is 78 rfl ?_; refine wp_store_mid_sl 36 _ _ rfl (b := S1) (off := 21) (cells := v8 (zs 16)) rfl rfl (by rw [v8_length, zs_length]; exact size_mact) (v8_one _) 3 H rfl (by rw [List.size_toArray, hsl.out, v8_length, zs_length]; omega) (fun w' H => ?_); rw [show ((s.cells.toArray.toList.take 21 ++ v8 (zs 16) ++ s.cells.toArray.toList.drop (21 + (v8 (zs 16)).length)).toArray) = u.cells.toArray from congrArg List.toArray u1.out] at H; replace H : At w0 (raw Q1 q'.cells.toArray 39 :: raw T1 t.cells.toArray 45 :: raw P1 p'.cells.toArray 39 :: raw S1 u.cells.toArray 45 :: raw Q q.cells.toArray 39 :: raw P p.cells.toArray 39 :: raw Y (v8 y).toArray 24 :: raw X (v8 x).toArray 24 :: F) w' := H; refine hK _ _ ?_)
              | (refine dst_is 79 rfl ?_; refine Hg.wp_build 36 _ rfl (by rw [Array.toList_map]; rfl) (built_mac0 _) (hK _ _ ?_))
              | (refine sto_is 80 rfl ?_; refine wp_store_mid_sl 36 _ _ rfl (b := T1) (off := 21) (cells := v8 (zs 16)) rfl rfl (by rw [v8_length, zs_length]; exact size_mact) (v8_one _) 1 H rfl (by rw [List.size_toArray, htl.out, v8_length, zs_length]; omega) (fun w' H => ?_); rw [show ((t.cells.toArray.toList.take 21 ++ v8 (zs 16) ++ t.cells.toArray.toList.drop (21 + (v8 (zs 16)).length)).toArray) = u.cells.toArray from congrArg List.toArray u2.out] at H; replace H : At w0 (raw Q1 q'.cells.toArray 39 :: raw T1 u.cells.toArray 45 :: raw P1 p'.cells.toArray 39 :: raw S1 u.cells.toArray 45 :: raw Q q.cells.toArray 39 :: raw P p.cells.toArray 39 :: raw Y (v8 y).toArray 24 :: raw X (v8 x).toArray 24 :: F) w' := H; refine hK _ _ (Stop.go ?_)))
            refine Stop.un ?_
            go_wp2_with ((first | (with_reducible refine wpList_op rfl ?_) | (refine wpList_opif (by rfl) ?_)); intro _ hK; first
              | (refine dst_is 88 rfl ?_; refine wp_mid 45 _ rfl (b := S1) (off := 0) rfl u.cells (by kernel_rfl) (by rw [hul.out]; exact size_slot) (at_blk H 3 rfl) (hK _ _ ?_))
              | (refine dst_is 89 rfl ?_; refine wp_mid 45 _ rfl (b := T1) (off := 0) rfl u.cells (by kernel_rfl) (by rw [hul.out]; exact size_slot) (at_blk H 1 rfl) (hK _ _ ?_))
              | (refine dst_is 90 rfl ?_; refine wp_run (neq_slot UO.out _ _ _ _ _ _ rfl rfl rfl) (hK _ _ ?_))
              | (refine dst_is 94 rfl ?_; refine wp_get 27 _ rfl rfl (by kernel_rfl) (at_raw H 5 rfl p0.out) (hK _ _ ?_))
              | (refine dst_is 96 rfl ?_; refine wp_get 27 _ rfl rfl (by kernel_rfl) (at_raw H 4 rfl q0.out) (hK _ _ ?_))
              | (refine dst_is 101 rfl ?_; refine wp_get 30 _ rfl rfl (by kernel_rfl) (at_raw H 5 rfl p1.out) (hK _ _ ?_))
              | (refine dst_is 103 rfl ?_; refine wp_get 30 _ rfl rfl (by kernel_rfl) (at_raw H 4 rfl q1.out) (hK _ _ ?_))
              | (refine dst_is 108 rfl ?_; refine wp_mid 32 _ rfl (b := P) (off := 2) rfl (v8 h.1.nonce) (by kernel_rfl) (by rw [v8_length, hnl.out]; exact size_nonce) (at_part H 5 rfl (by rw [v8_length, hnl.out]; exact p2.out)) (hK _ _ ?_))
              | (refine dst_is 110 rfl ?_; refine wp_mid 32 _ rfl (b := Q) (off := 2) rfl (v8 h.1.nonce) (by kernel_rfl) (by rw [v8_length, hnl.out]; exact size_nonce) (at_part H 4 rfl (by rw [v8_length, hnl.out]; exact q2.out)) (hK _ _ ?_))
              | (refine dst_is 111 rfl ?_; refine wp_run (neq_nonce hnl.out _ _ _ _ _ _ rfl rfl rfl) (hK _ _ ?_))
              | (refine dst_is 113 rfl ?_; refine wp_mid 39 _ rfl (b := P1) (off := 0) rfl p'.cells (by kernel_rfl) (by rw [hp2.out]; exact size_pkt) (at_blk H 2 rfl) (hK _ _ ?_))
              | (refine sto_is 10 rfl ?_; refine wp_store_row_sl 39 _ _ rfl (b := P) (cells := p'.cells.toArray) rfl rfl (by rw [List.size_toArray, hp2.out]; exact size_pkt) (by simpa using PktD.cells_one) 5 H rfl (by rw [List.size_toArray, List.size_toArray, hp2.out]; exact hpl.out) (fun w' H => ?_); replace H : At w0 (raw Q1 q'.cells.toArray 39 :: raw T1 u.cells.toArray 45 :: raw P1 p'.cells.toArray 39 :: raw S1 u.cells.toArray 45 :: raw Q q.cells.toArray 39 :: raw P p'.cells.toArray 39 :: raw Y (v8 y).toArray 24 :: raw X (v8 x).toArray 24 :: F) w' := H; refine hK _ _ ?_)
              | (refine dst_is 114 rfl ?_; refine wp_mid 39 _ rfl (b := Q1) (off := 0) rfl q'.cells (by kernel_rfl) (by rw [hq2.out]; exact size_pkt) (at_blk H 0 rfl) (hK _ _ ?_))
              | (refine sto_is 12 rfl ?_; refine wp_store_row_sl 39 _ _ rfl (b := Q) (cells := q'.cells.toArray) rfl rfl (by rw [List.size_toArray, hq2.out]; exact size_pkt) (by simpa using PktD.cells_one) 4 H rfl (by rw [List.size_toArray, List.size_toArray, hq2.out]; exact hql.out) (fun w' H => ?_); replace H : At w0 (raw Q q'.cells.toArray 39 :: raw P p'.cells.toArray 39 :: raw Y (v8 y).toArray 24 :: raw X (v8 x).toArray 24 :: F) w' := H.maskR [false, false, false, false]; refine hK _ _ ?_))
            first
              | (refine ⟨?_, ?measure⟩; iterate 60 (try apply Exists.intro); refine ⟨?rel, rfl⟩)
              | refine ⟨?rel, ?measure⟩
            case rel => exact ⟨d + 1, p', q', by omega, by go_num, hpi.out, hqi.out, H⟩
            case measure => simp [intOf]; omega
      · obtain rfl : d = m := by omega
        have hbo := Lib.hid (show (p.cells.drop 354).take 256 = v8 x by rw [PktD.part_body I.out.ok, I.out.last hLm.out])
        have hbq := Lib.hid (show (q.cells.drop 354).take 256 = v8 y by rw [PktD.part_body J.out.ok, J.out.last hLm.out])
        go_wp2_with ((first | (with_reducible refine wpList_op rfl ?_) | (refine wpList_opif (by rfl) ?_)); intro _ hK; first
          | (refine dst_is 122 rfl ?_; refine wp_mid 24 _ rfl (b := P) (off := 354) rfl (v8 x) (by kernel_rfl) (by rw [v8_length, HB.out]; exact size_a256) (at_part H 1 rfl (by rw [v8_length, HB.out]; exact hbo.out)) (hK _ _ ?_))
          | (refine dst_is 123 rfl ?_; refine wp_lda 24 _ rfl (b := X) (bs := x) rfl (by kernel_rfl) (by rw [HB.out]; exact size_a256) 3 H rfl (hK _ _ ?_))
          | (refine dst_is 124 rfl ?_; refine wp_run (eql_same HB.out _ _ _ _ _ _ rfl rfl rfl) (hK _ _ ?_))
          | (refine dst_is 128 rfl ?_; refine wp_mid 24 _ rfl (b := Q) (off := 354) rfl (v8 y) (by kernel_rfl) (by rw [v8_length, HY.out]; exact size_a256) (at_part H 0 rfl (by rw [v8_length, HY.out]; exact hbq.out)) (hK _ _ ?_))
          | (refine dst_is 129 rfl ?_; refine wp_lda 24 _ rfl (b := Y) (bs := y) rfl (by kernel_rfl) (by rw [HY.out]; exact size_a256) 2 H rfl (hK _ _ ?_))
          | (refine dst_is 130 rfl ?_; refine wp_run (eql_same HY.out _ _ _ _ _ _ rfl rfl rfl) (hK _ _ ?_)))
        exact ⟨rfl, _, results_tmp rfl _ _ _, rfl, H.maskR [false, false, false, false]⟩
theorem onionBody_walk {W : World} {v : Value} {hops : List HopO} {a : Int} {x y : List (BitVec 8)} (G : Glob W) (hv : SeeL 54 hopC W [] v hops) (ha : (Lit.int .u16 a).wf = true) (hbx : x.length = 256) (hby : y.length = 256) : Calls Tryd.prog 6 #[v, .int .u16 a, .agg (v8 x).toArray, .agg (v8 y).toArray] W fun e w' => e = .returned (.bool true) ∧ Below W.heap.size W w' := by
  obtain ⟨box, hbox, rfl⟩ := u16_nat ha
  exact (onionBody_c G (At.start W) hv hbox hbx hby).mono fun _ _ h => ⟨h.1, h.2.below⟩
theorem onionBody_own : ownKnob Tryd.prog.godebug = none := by kernel_rfl
theorem onionBody_laidout : laidOutB Tryd.prog = true := by kernel_rfl
set_option maxRecDepth 100000 in
theorem onionBody_contract (H : Type) (enc : TypeId × Value → H) (W : World) (base : Nat) (args : Array Value) (ds gs : List (DataW H)) (before : List MemPlace)
    (hval : ∀ (j : Nat) t v, Tryd.f6.params[j]? = some t → args[j]? = some v → Value.okWide Tryd.prog W .any base t v)
    (hW : DataW.Whole enc Tryd.prog Tryd.f6.params.toList Rows.onionBodySpec.vars false W args.toList ds gs before) (hL : laidMetH Tryd.prog Rows.onionBodyRow.laid W) :
    Calls Tryd.prog 6 args W fun e W' => ∃ v, e = .returned v ∧ Rows.onionBodySpec.post enc Tryd.prog Tryd.f6 false true false false W args v W' := by
  have G : Glob W := glob_of_laid hL
  have hW' := hW
  obtain ⟨p, q, hA0, hV, rfl, hfz, hnd⟩ := hW
  have hA : DataW.TrodAll enc Tryd.prog W 0 (fun _ => true) true Tryd.f6.params.toList args.toList ds p := hA0
  rw [Tryd.params6] at hA hval
  obtain ⟨v0, vs0, d0, ds0, p0, q0, hargs, rfl, rfl, h0, r0⟩ := trodAll_cons hA
  obtain ⟨v1, vs1, d1, ds1, p1, q1, rfl, rfl, rfl, h1, r1⟩ := trodAll_cons r0
  obtain ⟨v2, vs2, d2, ds2, p2, q2, rfl, rfl, rfl, h2, r2⟩ := trodAll_cons r1
  obtain ⟨v3, vs3, d3, ds3, p3, q3, rfl, rfl, rfl, h3, r3⟩ := trodAll_cons r2
  obtain ⟨rfl, rfl, rfl⟩ := trodAll_nil r3
  obtain rfl : args = #[v0, v1, v2, v3] := by cases args; simp_all
  obtain ⟨rfl, rfl⟩ := trodVars_none hV
  have k0 := h0
  have lt0 : ∀ x ∈ p0, x.block < W.heap.size := by obtain ⟨m, hm⟩ := k0; exact DataW.trod_lt m _ _ _ hm
  have k1 := h1
  have lt1 : ∀ x ∈ p1, x.block < W.heap.size := by obtain ⟨m, hm⟩ := k1; exact DataW.trod_lt m _ _ _ hm
  have k2 := h2
  have lt2 : ∀ x ∈ p2, x.block < W.heap.size := by obtain ⟨m, hm⟩ := k2; exact DataW.trod_lt m _ _ _ hm
  have k3 := h3
  have lt3 : ∀ x ∈ p3, x.block < W.heap.size := by obtain ⟨m, hm⟩ := k3; exact DataW.trod_lt m _ _ _ hm
  obtain ⟨a0, f0⟩ := open_hops (e := 35) (by kernel_rfl) Tryd.underlying22 (by kernel_rfl) (hval 0 22 v0 rfl rfl) h0
  obtain ⟨a1, rfl, rfl, rfl, f1⟩ := open_int Tryd.underlying23 (hval 1 23 v1 rfl rfl) h1
  obtain ⟨a2, f2, rfl⟩ := open_bytes (n := 256) (by kernel_rfl) Tryd.underlying24 (hval 2 24 v2 rfl rfl) h2
  obtain ⟨a3, f3, rfl⟩ := open_bytes (n := 256) (by kernel_rfl) Tryd.underlying24 (hval 3 24 v3 rfl rfl) h3
  clear hA0
  refine (onionBody_walk G f0 f1 f2 f3).mono fun e W' ⟨he, bel⟩ => ?_
  subst he
  exact ⟨_, rfl, _, _, _, [], _, [], hW', trodAll_mk1 (shut_bool Tryd.underlying4 _), (trodAll_cons_mk (Below.trod onionBody_laidout (by kernel_rfl) (of_decide_eq_true (by kernel_rfl)) k0 bel lt0) (trodAll_cons_mk (Below.trod onionBody_laidout (by kernel_rfl) (of_decide_eq_true (by kernel_rfl)) k1 bel lt1) (trodAll_cons_mk (Below.trod onionBody_laidout (by kernel_rfl) (of_decide_eq_true (by kernel_rfl)) k2 bel lt2) (trodAll_cons_mk (Below.trod onionBody_laidout (by kernel_rfl) (of_decide_eq_true (by kernel_rfl)) k3 bel lt3) trodAll_mk0)))), rfl, bel.frame _, fun h => by cases h⟩
noncomputable def onionBody_wit : Array Value := #[.slice none 0 0, .int .u16 0, .agg (v8 (zs 256)).toArray, .agg (v8 (zs 256)).toArray]
theorem onionBody_met (os : Os) : laidMet Tryd.prog Rows.onionBodyRow.laid ((laidWorld os).forCall (fun _ _ => 0) ⟨#[], onionBody_wit, []⟩).memory := laidMet_of_run' 8 (by kernel_rfl) (by kernel_rfl)
set_option maxRecDepth 100000 in
theorem onionBody_lifted (os : Os) (started : os.Started) (H : Type) (enc : TypeId × Value → H) (F : Stop.Interp) :
    ReturnsInHanded {} Tryd.checked os 6 .any ((OpenSpec.ofChange Rows.onionBodySpec).preRow enc Tryd.prog Tryd.f6 Rows.onionBodyRow.domain false Rows.onionBodyRow.laid) (((OpenSpec.ofChange Rows.onionBodySpec).at F).post enc Tryd.prog Tryd.f6 false true false false) := by
  obtain ⟨x, hx⟩ := Option.isSome_iff_exists.1 (show (DataW.whole enc Tryd.prog ((laidWorld os).forCall (fun _ _ => 0) ⟨#[], onionBody_wit, []⟩).memory Tryd.f6.params.toList Rows.onionBodySpec.vars false onionBody_wit.toList 8).isSome = true by kernel_rfl)
  refine returnsInHanded_of_row (C := Tryd.checked) (s := OpenSpec.ofChange Rows.onionBodySpec) onionBody_own started (by kernel_rfl) Tryd.func6
    (witness_row_at (enc := enc) (C := Tryd.checked) false (laidWorld os) onionBody_wit rfl (by kernel_rfl) (by kernel_rfl) (by kernel_rfl)
      (OpenSpec.preRow_of_cond 8 hx (by kernel_rfl) (fun k hk => by cases hk) (by kernel_rfl) (onionBody_met os))) ?_
  intro W base args ds gs before hval hW _ _ _ hL _ _
  exact onionBody_contract H enc W base args ds gs before hval hW hL
theorem onionBody_said : Rows.OnionBodySaid :=
  OpenClaim.holds_of_cond 6 Tryd.f6 rfl rfl rfl rfl rfl rfl rfl ⟨rfl, rfl, rfl, rfl, rfl⟩ rfl rfl rfl rfl rfl (by kernel_rfl) Tryd.func6 (by kernel_rfl)
    (of_decide_eq_true (by kernel_rfl)) (by unfold Func.isWrapper; first | (rw [if_pos (by decide +kernel)]; kernel_rfl) | (rw [if_neg (by decide +kernel)]; exact ⟨rfl, rfl⟩))
    (fun os started H enc _ F => by rw [OpenClaim.pre_eq_preRow]; exact onionBody_lifted os started H enc F)
theorem onionBody_plain (f : FuncId) (fn : Func) (hf : Tryd.pinned.checked.prog.funcNamed "hourglass/hourglasslaw11.OnionBody" = some f) (hfn : Tryd.pinned.checked.prog.funcs[f]? = some fn) :
    false = Tryd.pinned.checked.prog.looks [] ∧ ∀ (j : Nat) t, fn.params[j]? = some t → Tryd.pinned.checked.prog.wantsStandIn t = false := by
  obtain rfl : f = 6 := Option.some.inj ((show Tryd.prog.funcNamed "hourglass/hourglasslaw11.OnionBody" = some 6 by kernel_rfl).symm.trans hf) |>.symm
  obtain rfl : fn = Tryd.f6 := (Option.some.inj (Tryd.func6.symm.trans hfn)).symm
  refine ⟨by kernel_rfl, fun j t ht => ?_⟩
  have hall : ∀ t ∈ Tryd.f6.params, Tryd.prog.wantsStandIn t = false := by
    have h : (Tryd.f6.params.toList.all fun t => !Tryd.prog.wantsStandIn t) = true := by kernel_rfl
    intro t ht
    simpa using List.all_eq_true.1 h t (Array.mem_toList_iff.2 ht)
  exact hall t (Array.mem_of_getElem? ht)
/-- The card. -/
theorem onionBody_holds : Rows.OnionBodyCardSaid :=
  Claim7.holds_tied_plain_at .later [] _ _ _ _ onionBody_said (fun _ h => by cases h) (by kernel_rfl) (fun _ h => by cases h) onionBody_row_tie rfl ⟨rfl, rfl⟩ (by kernel_rfl) rfl onionBody_plain (by kernel_rfl)
#print axioms onionBody_holds
end Go.Proofs.YtgdphamdbpkjdaaDoor
