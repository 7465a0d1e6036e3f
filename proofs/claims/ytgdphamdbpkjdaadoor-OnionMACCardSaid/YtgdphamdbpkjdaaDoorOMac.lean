/-
  Chapter 11: OnionMAC: whoever peels a packet that is not of this key is told so, unless its MAC is that of the key.
-/
import Derived.Test.YtgdphamdbpkjdaaDoorLawA
import Derived.Test.YtgdphamdbpkjdaaDoorCard
import Derived.Test.YtgdphamdbpkjdaaDoorRMac
import Derived.Deep.CutRange
namespace Go.Proofs.YtgdphamdbpkjdaaDoor
open Go.ChangeShapes Go.WideShapes Go.ChangeAt Go.RowKit Go.Hg
set_option linter.unusedSimpArgs false
set_option linter.unusedVariables false
theorem u8_bv {a : Int} (h : (Lit.int .u8 a).wf = true) : ∃ b : BitVec 8, a = iv b := by
  have e1 : IntKind.u8.min = 0 := rfl
  have e2 : IntKind.u8.max = 255 := rfl
  simp [Lit.wf, e1, e2] at h
  refine ⟨BitVec.ofNat 8 a.toNat, ?_⟩
  unfold iv
  rw [BitVec.toNat_ofNat]
  omega
theorem range_in {w : World} {b off k : Nat} {cs xs : List Value} (h : w.rangeAt b off cs) (hc : (cs.drop k).take xs.length = xs) : w.rangeAt b (off + k) xs := fun j v hv => by
  rw [← hc, List.getElem?_take] at hv
  split at hv
  · rw [List.getElem?_drop] at hv
    have := h (k + j) v hv
    rwa [← Nat.add_assoc] at this
  · cases hv
/-- A byte of a packet is changed: it stays one. -/
theorem pkt_byte {p : PktD} (po : p.ok) {k : Nat} (hk : k < 608) : ∃ b : BitVec 8, p.cells[2 + k]? = some (.int .u8 (iv b)) ∧ ∀ y : BitVec 8, ∃ p' : PktD, p'.ok ∧ p.cells.toArray.setIfInBounds (2 + k) (.int .u8 (iv y)) = p'.cells.toArray := by
  obtain ⟨B, hB⟩ : ∃ B, B = p.nonce ++ (p.mac ++ (p.head ++ p.body)) := ⟨_, rfl⟩
  have hl : B.length = 608 := by rw [hB]; simp [po.nonce, po.mac, po.head, po.body]
  have hcells : ∀ (who epoch : Nat) (C : List (BitVec 8)), C.length = 608 → (PktD.mk who epoch (C.take 16) ((C.drop 16).take 16) ((C.drop 32).take 320) (C.drop 352)).cells = [.int .u16 (who : Int), .int .u32 (epoch : Int)] ++ v8 C := fun who epoch C hC => by
    unfold PktD.cells
    congr 1
    show v8 (C.take 16) ++ (v8 ((C.drop 16).take 16) ++ (v8 ((C.drop 32).take 320) ++ v8 (C.drop 352))) = v8 C
    have e3 : (C.drop 32).take 320 ++ C.drop 352 = C.drop 32 := by
      rw [show C.drop 352 = (C.drop 32).drop 320 by rw [List.drop_drop]]
      exact List.take_append_drop _ _
    have e2 : (C.drop 16).take 16 ++ C.drop 32 = C.drop 16 := by
      rw [show C.drop 32 = (C.drop 16).drop 16 by rw [List.drop_drop]]
      exact List.take_append_drop _ _
    unfold v8
    rw [← List.map_append, e3, ← List.map_append, e2, ← List.map_append, List.take_append_drop]
  have hpc : p.cells = [.int .u16 (p.who : Int), .int .u32 (p.epoch : Int)] ++ v8 B := by
    rw [hB]
    unfold PktD.cells v8
    rw [List.map_append, List.map_append, List.map_append]
  refine ⟨gb B k, ?_, fun y => ⟨⟨p.who, p.epoch, (B.set k y).take 16, ((B.set k y).drop 16).take 16, ((B.set k y).drop 32).take 320, (B.set k y).drop 352⟩, ?_, ?_⟩⟩
  · rw [hpc, List.getElem?_append_right (by simp)]
    have := v8_get (bs := B) (i := k) (by omega)
    simpa using this
  · have hs : (B.set k y).length = 608 := by rw [List.length_set, hl]
    exact ⟨po.who, po.epoch, by simp [hl], by simp [hl], by simp [hl], by simp [hl]⟩
  · have hs : (B.set k y).length = 608 := by rw [List.length_set, hl]
    rw [hcells _ _ _ hs]
    apply Array.ext'
    rw [Array.toList_setIfInBounds]
    show p.cells.set _ _ = _
    rw [hpc, List.set_append_right _ _ (by simp), ← v8_set]
    simp
theorem trip {α β γ : Type} (x : α × β × γ) : ∃ a b c, x = (a, b, c) := by
  obtain ⟨a, b, c⟩ := x
  exact ⟨a, b, c, rfl⟩
theorem peel_e4 {key : List (BitVec 8)} {p : PktD} (h : macOf key p = p.mac) : (peelOf key p).2.2 ≠ 4 := by
  unfold peelOf
  rw [if_neg (by simpa using h)]
  split <;> simp
theorem peel_no {key : List (BitVec 8)} {p : PktD} (h : macOf key p ≠ p.mac) : peelOf key p = (SlotD.zero, PktD.zero, 4) := by
  unfold peelOf
  rw [if_pos h]
set_option maxRecDepth 10000 in
set_option maxHeartbeats 8000000 in
theorem onionMAC_c {w0 w : World} {F : List SP} {v : Value} {hops : List HopO} {body key : List (BitVec 8)} {z : Int} {y : BitVec 8} (G : Glob w0) (H : At w0 F w) (hv : SeeL 54 hopC w0 F v hops) (hb : body.length = 256) (hk : key.length = 32) :
    Calls Tryd.prog 4 #[v, .agg (v8 body).toArray, .agg (v8 key).toArray, .int .i64 z, .int .u8 (iv y)] w fun r w' => r = .returned (.bool true) ∧ At w0 F w' := by
  obtain ⟨a0, cap0, hv0, _, hsome⟩ := hv.slice
  have HS0 := Lib.hid hsome
  have HV0 := Lib.hid hv
  obtain ⟨a, cap, rfl, hcap, _⟩ := hv.slice
  obtain ⟨n, hn⟩ : ∃ n, n = hops.length := ⟨_, rfl⟩
  rw [← hn] at hv ⊢
  obtain ⟨m, hm⟩ : ∃ m, m = min n 5 := ⟨_, rfl⟩
  have hmin : (if (5 : Int) < (n : Int) then (5 : Int) else (n : Int)) = (m : Int) := by split <;> omega
  obtain ⟨cv, hcv, hrun⟩ := hv.upto el_hop under_hops' elem_hops (k := m) (by omega)
  obtain ⟨L, hL⟩ : ∃ L, L = hops.take m := ⟨_, rfl⟩
  have hLm := Lib.hid (show m = L.length by rw [hL, List.length_take]; omega)
  have hm5 := Lib.hid (show m ≤ 5 by omega)
  rw [← hL] at hcv
  have HCV := Lib.hid hcv
  have HRUN := Lib.hid hrun
  have HB := Lib.hid hb
  cases hv0
  have HV := Lib.hid hv
  have HS := Lib.hid (show 0 < n → ∃ b off, a0 = some ⟨b, off, none⟩ by rw [hn]; exact hsome)
  have HN := Lib.hid hn
  have HK := Lib.hid hk
  have hL5 := Lib.hid (show L.length ≤ n by rw [hL, List.length_take]; omega)
  obtain ⟨R, hR⟩ : ∃ R, R = buildOf (L.map (·.1)) 1 body := ⟨_, rfl⟩
  obtain ⟨p, hp⟩ : ∃ p, p = BldP R := ⟨_, rfl⟩
  have PO := Lib.hid (show p.ok by rw [hp, hR]; exact bldP_ok (by omega) hb)
  have hpl := Lib.hid (PktD.cells_length PO.out)
  have hl1 := Lib.hid (show R.isSome = true → 1 ≤ L.length by
    intro h
    rw [hR] at h
    rcases Nat.lt_or_ge L.length 1 with hlt | hge
    · unfold buildOf at h
      rw [if_pos (by rw [List.length_map]; omega)] at h
      cases h
    · exact hge)
  have HR := Lib.hid hR
  have HP := Lib.hid hp
  clear hb hv hcv hrun hcap hm hL hn hsome HS0 HV0 hk hR hp
  go_enter Tryd.func4, Tryd.ntmps4
  go_wp2_with ((with_reducible refine wpList_op rfl ?_); intro _ hK; first
    | (refine dst_is 6 rfl ?_; refine wp_box_sl (v := .agg (v8 body).toArray) 24 _ rfl rfl H (fun B w' (H : At w0 (raw B (v8 body).toArray 24 :: F) w') _ => hK _ _ ?_))
    | (refine dst_is 7 rfl ?_; refine wp_box_sl (v := .agg (v8 key).toArray) 29 _ rfl rfl H (fun KB w' (H : At w0 (raw KB (v8 key).toArray 29 :: raw B (v8 body).toArray 24 :: F) w') _ => hK _ _ ?_)))
  refine (shown_c G H).mono ?_; rintro e w' ⟨rfl, H⟩
  go_wp2_with fail
  go_cut [12, 13] from 20 to 29 (fun s1 s2 wr => ∃ P, s1 = .pointer (some ⟨P, 0, none⟩) ∧ s2 = .int .i64 (BldE R) ∧ At w0 (raw P p.cells.toArray 39 :: raw KB (v8 key).toArray 29 :: raw B (v8 body).toArray 24 :: F) wr)
  case first =>
    go_wp2_with fail
    refine wpT_begin [11] ((At w0 (raw KB (v8 key).toArray 29 :: raw B (v8 body).toArray 24 :: F))) (Tr.of [(0, 2), (1, 2), (2, 2), (3, 2), (4, 2), (5, 1)] (.two 6 10 (Tr.of [(7, 2), (8, 2), (9, 2), (10, 0), (11, 0), (12, 0)] .nil) (Tr.of [(6, 0), (7, 2), (8, 2), (9, 2), (11, 0), (12, 0)] .nil))) rfl (by kernel_rfl) (by kernel_rfl) ((H.drew)) ?_
    intro ops hOps hS
    replace H := H.drew
    refine wpT_free hOps rfl (fun _ _ _ h => h) (yl_move rfl _ rfl) ?_
    simp only [Act.put, Act.eval, List.setIfInBounds_toArray, List.set_cons_zero, List.set_cons_succ, Array.getD_eq_getD_getElem?, List.getElem?_toArray, List.getElem?_cons_zero, List.getElem?_cons_succ, Option.getD_some]
    refine wpT_free hOps rfl (fun _ _ _ h => h) (yl_move rfl _ rfl) ?_
    simp only [Act.put, Act.eval, List.setIfInBounds_toArray, List.set_cons_zero, List.set_cons_succ, Array.getD_eq_getD_getElem?, List.getElem?_toArray, List.getElem?_cons_zero, List.getElem?_cons_succ, Option.getD_some]
    refine wpT_free hOps (v := ?vOp57) rfl (fun _ _ _ h => h) (yl rfl ?yOp57) ?_
    case yOp57 => (intro w hw; go_simp; first | done | rfl)
    simp only [Act.put, Act.eval, List.setIfInBounds_toArray, List.set_cons_zero, List.set_cons_succ, Array.getD_eq_getD_getElem?, List.getElem?_toArray, List.getElem?_cons_zero, List.getElem?_cons_succ, Option.getD_some]
    refine wpT_free hOps (v := ?vOp59) rfl (fun _ _ _ h => h) (yl rfl ?yOp59) ?_
    case yOp59 => (intro w hw; go_simp; first | done | rfl)
    simp only [Act.put, Act.eval, List.setIfInBounds_toArray, List.set_cons_zero, List.set_cons_succ, Array.getD_eq_getD_getElem?, List.getElem?_toArray, List.getElem?_cons_zero, List.getElem?_cons_succ, Option.getD_some]
    refine wpT_free hOps rfl (fun _ _ _ h => h) (yl_slice rfl 22 (.tmp 21) none (some (.tmp 24)) none rfl (v := cv) HRUN.out) ?_
    simp only [Act.put, Act.eval, List.setIfInBounds_toArray, List.set_cons_zero, List.set_cons_succ, Array.getD_eq_getD_getElem?, List.getElem?_toArray, List.getElem?_cons_zero, List.getElem?_cons_succ, Option.getD_some]
    refine wpT_take hOps hS rfl (fun _ _ _ h => h) (yl_lda rfl 24 _ rfl rfl (by kernel_rfl) (by rw [HB.out]; exact size_a256) (fun w hw => at_blk (cs := v8 body) hw 1 rfl)) ?_
    simp only [Act.put, Act.eval, List.setIfInBounds_toArray, List.set_cons_zero, List.set_cons_succ, Array.getD_eq_getD_getElem?, List.getElem?_toArray, List.getElem?_cons_zero, List.getElem?_cons_succ, Option.getD_some]
    refine wpT_two hOps rfl rfl rfl rfl ?_ ?_
    all_goals intro K hK
    · refine wp_call _ _ _ rfl Tryd.func10 rfl (by kernel_rfl) ?_
      simp only [List.map_toArray, List.map_cons, List.map_nil, Act.eval, Array.getD_eq_getD_getElem?, List.getElem?_toArray, List.getElem?_cons_zero, List.getElem?_cons_succ, Option.getD_some]
      refine (build_c (hops := L) (box := 1) (body := body) G H (HCV.out.weak (by repeat (first | exact List.Sublist.refl _ | apply List.Sublist.cons))) HB.out (by omega)).mono ?_; rintro e' w' ⟨rfl, H⟩
      rw [← HR.out, ← HP.out]
      have hS := ((H))
      refine hK _ _ (.inr hS) ?_
      clear hK K
      simp only [Act.put, Act.eval, List.setIfInBounds_toArray, List.set_cons_zero, List.set_cons_succ, Array.getD_eq_getD_getElem?, List.getElem?_toArray, List.getElem?_cons_zero, List.getElem?_cons_succ, Option.getD_some]
      refine wpT_free hOps rfl (fun _ _ _ h => h) (yl_move rfl _ rfl) ?_
      simp only [Act.put, Act.eval, List.setIfInBounds_toArray, List.set_cons_zero, List.set_cons_succ, Array.getD_eq_getD_getElem?, List.getElem?_toArray, List.getElem?_cons_zero, List.getElem?_cons_succ, Option.getD_some]
      refine wpT_free hOps (v := ?vOp70) rfl (fun _ _ _ h => h) (yl rfl ?yOp70) ?_
      case yOp70 => (intro w hw; go_simp; first | done | rfl)
      simp only [Act.put, Act.eval, List.setIfInBounds_toArray, List.set_cons_zero, List.set_cons_succ, Array.getD_eq_getD_getElem?, List.getElem?_toArray, List.getElem?_cons_zero, List.getElem?_cons_succ, Option.getD_some]
      refine wpT_free hOps (v := ?vOp72) rfl (fun _ _ _ h => h) (yl rfl ?yOp72) ?_
      case yOp72 => (intro w hw; go_simp; first | done | rfl)
      simp only [Act.put, Act.eval, List.setIfInBounds_toArray, List.set_cons_zero, List.set_cons_succ, Array.getD_eq_getD_getElem?, List.getElem?_toArray, List.getElem?_cons_zero, List.getElem?_cons_succ, Option.getD_some]
      refine wpT_next hOps rfl rfl ?_
      intro K hK
      refine wp_alloc_sl 39 rfl info_pkt H (fun P w' H _ => ?_)
      replace H : At w0 (raw P PktD.zero.cells.toArray 39 :: raw KB (v8 key).toArray 29 :: raw B (v8 body).toArray 24 :: F) w' := H
      have hS := ((H.tail))
      refine hK _ _ (.inr hS) ?_
      clear hK K
      simp only [Act.put, Act.eval, List.setIfInBounds_toArray, List.set_cons_zero, List.set_cons_succ, Array.getD_eq_getD_getElem?, List.getElem?_toArray, List.getElem?_cons_zero, List.getElem?_cons_succ, Option.getD_some]
      refine wpT_next hOps rfl rfl ?_
      intro K hK
      refine wp_store_row_sl 39 _ _ rfl (b := P) (cells := p.cells.toArray) rfl rfl (by rw [List.size_toArray, hpl.out]; exact size_pkt) (by simpa using PktD.cells_one) 0 H rfl (by rw [List.size_toArray, List.size_toArray, hpl.out]; rfl) (fun w' H => ?_)
      replace H : At w0 (raw P p.cells.toArray 39 :: raw KB (v8 key).toArray 29 :: raw B (v8 body).toArray 24 :: F) w' := H
      have hS := ((H.tail))
      refine hK _ _ (.inr hS) ?_
      clear hK K
      simp only [Act.put, Act.eval, List.setIfInBounds_toArray, List.set_cons_zero, List.set_cons_succ, Array.getD_eq_getD_getElem?, List.getElem?_toArray, List.getElem?_cons_zero, List.getElem?_cons_succ, Option.getD_some]
      refine wpT_next hOps rfl rfl ?_
      intro K hK
      refine wp_run rfl ?_
      have hS := (hS)
      refine hK _ _ (.inr hS) ?_
      clear hK K
      simp only [Act.put, Act.eval, List.setIfInBounds_toArray, List.set_cons_zero, List.set_cons_succ, Array.getD_eq_getD_getElem?, List.getElem?_toArray, List.getElem?_cons_zero, List.getElem?_cons_succ, Option.getD_some]
      refine wpT_end ?_
      clear hOps hS ops
      go_wp2_with fail
      go_meet
      case rel => exact ⟨_, rfl, rfl, H⟩
    · refine wp_alloc_sl 39 rfl info_pkt H (fun P w' H _ => ?_)
      replace H : At w0 (raw P PktD.zero.cells.toArray 39 :: raw KB (v8 key).toArray 29 :: raw B (v8 body).toArray 24 :: F) w' := H
      have hS := ((H.tail))
      refine hK _ _ (.inr hS) ?_
      clear hK K
      simp only [Act.put, Act.eval, List.setIfInBounds_toArray, List.set_cons_zero, List.set_cons_succ, Array.getD_eq_getD_getElem?, List.getElem?_toArray, List.getElem?_cons_zero, List.getElem?_cons_succ, Option.getD_some]
      refine wpT_next hOps rfl rfl ?_
      intro K hK
      refine wp_call _ _ _ rfl Tryd.func10 rfl (by kernel_rfl) ?_
      simp only [List.map_toArray, List.map_cons, List.map_nil, Act.eval, Array.getD_eq_getD_getElem?, List.getElem?_toArray, List.getElem?_cons_zero, List.getElem?_cons_succ, Option.getD_some]
      refine (build_c (hops := L) (box := 1) (body := body) G H (HCV.out.weak (by repeat (first | exact List.Sublist.refl _ | apply List.Sublist.cons))) HB.out (by omega)).mono ?_; rintro e' w' ⟨rfl, H⟩
      rw [← HR.out, ← HP.out]
      have hS := ((H.tail))
      refine hK _ _ (.inr hS) ?_
      clear hK K
      simp only [Act.put, Act.eval, List.setIfInBounds_toArray, List.set_cons_zero, List.set_cons_succ, Array.getD_eq_getD_getElem?, List.getElem?_toArray, List.getElem?_cons_zero, List.getElem?_cons_succ, Option.getD_some]
      refine wpT_free hOps rfl (fun _ _ _ h => h) (yl_move rfl _ rfl) ?_
      simp only [Act.put, Act.eval, List.setIfInBounds_toArray, List.set_cons_zero, List.set_cons_succ, Array.getD_eq_getD_getElem?, List.getElem?_toArray, List.getElem?_cons_zero, List.getElem?_cons_succ, Option.getD_some]
      refine wpT_free hOps (v := ?vOp89) rfl (fun _ _ _ h => h) (yl rfl ?yOp89) ?_
      case yOp89 => (intro w hw; go_simp; first | done | rfl)
      simp only [Act.put, Act.eval, List.setIfInBounds_toArray, List.set_cons_zero, List.set_cons_succ, Array.getD_eq_getD_getElem?, List.getElem?_toArray, List.getElem?_cons_zero, List.getElem?_cons_succ, Option.getD_some]
      refine wpT_free hOps (v := ?vOp91) rfl (fun _ _ _ h => h) (yl rfl ?yOp91) ?_
      case yOp91 => (intro w hw; go_simp; first | done | rfl)
      simp only [Act.put, Act.eval, List.setIfInBounds_toArray, List.set_cons_zero, List.set_cons_succ, Array.getD_eq_getD_getElem?, List.getElem?_toArray, List.getElem?_cons_zero, List.getElem?_cons_succ, Option.getD_some]
      refine wpT_next hOps rfl rfl ?_
      intro K hK
      refine wp_store_row_sl 39 _ _ rfl (b := P) (cells := p.cells.toArray) rfl rfl (by rw [List.size_toArray, hpl.out]; exact size_pkt) (by simpa using PktD.cells_one) 0 H rfl (by rw [List.size_toArray, List.size_toArray, hpl.out]; rfl) (fun w' H => ?_)
      replace H : At w0 (raw P p.cells.toArray 39 :: raw KB (v8 key).toArray 29 :: raw B (v8 body).toArray 24 :: F) w' := H
      have hS := ((H.tail))
      refine hK _ _ (.inr hS) ?_
      clear hK K
      simp only [Act.put, Act.eval, List.setIfInBounds_toArray, List.set_cons_zero, List.set_cons_succ, Array.getD_eq_getD_getElem?, List.getElem?_toArray, List.getElem?_cons_zero, List.getElem?_cons_succ, Option.getD_some]
      refine wpT_next hOps rfl rfl ?_
      intro K hK
      refine wp_run rfl ?_
      have hS := (hS)
      refine hK _ _ (.inr hS) ?_
      clear hK K
      simp only [Act.put, Act.eval, List.setIfInBounds_toArray, List.set_cons_zero, List.set_cons_succ, Array.getD_eq_getD_getElem?, List.getElem?_toArray, List.getElem?_cons_zero, List.getElem?_cons_succ, Option.getD_some]
      refine wpT_end ?_
      clear hOps hS ops
      go_wp2_with fail
      go_meet
      case rel => exact ⟨_, rfl, rfl, H⟩
  case rest =>
    obtain ⟨P, rfl, rfl, H⟩ := hcut
    cases hR0 : R with
    | none =>
      rw [show BldE none = 1 from rfl]
      go_wp2_with ((first | (with_reducible refine wpList_op rfl ?_) | (refine wpList_opif (by rfl) ?_)); intro _ hK; fail)
      exact ⟨rfl, _, results_tmp rfl _ _ _, rfl, H.maskR [false, false, false]⟩
    | some pp =>
      rw [show BldE (some pp) = 0 from rfl]
      have hn1 := Lib.hid (show 0 < n by have := hl1.out (by rw [hR0]; rfl); have := hL5.out; omega)
      have hn0 : ¬ (n : Int) = 0 := by have := hn1.out; omega
      have hnb : ((n : Int) == 0) = false := by simp; have := hn1.out; omega
      obtain ⟨x, hx⟩ : ∃ x : Nat, (x : Int) = z % 65536 := ⟨(z % 65536).toNat, by omega⟩
      obtain ⟨m2, hm2⟩ : ∃ m2, m2 = x % 608 := ⟨_, rfl⟩
      have a1 : bits .and .i64 z 65535 = (x : Int) := by
        rw [hx]
        exact bits_and_low z 16 (by omega)
      have a2 : (x : Int).tmod 608 = (m2 : Int) := by rw [Int.tmod_eq_emod_of_nonneg (by omega)]; omega
      have hm608 := Lib.hid (show m2 < 608 by omega)
      have h3 := Lib.hid (PktD.part_mac PO.out)
      clear hx hm2 hR0 HR HP hl1
      by_cases h16 : m2 < 16
      · as_aux_lemma =>
          have k16 : (m2 : Int) < 16 := by omega
          have hkk := Lib.hid (show 16 + m2 < 608 by have := hm608.out; omega)
          obtain ⟨b, hb, hset⟩ := pkt_byte PO.out hkk.out
          obtain ⟨p2, po2, hs2⟩ := hset (b ^^^ y)
          have hcell := Lib.hid (show p.cells[18 + m2]? = some (.int .u8 (iv b)) by rw [show 18 + m2 = 2 + (16 + m2) by omega]; exact hb)
          have hs3 := Lib.hid (show p.cells.toArray.setIfInBounds (18 + m2) (.int .u8 (iv (b ^^^ y))) = p2.cells.toArray by rw [show 18 + m2 = 2 + (16 + m2) by omega]; exact hs2)
          have PO2 := Lib.hid po2
          have hpl2 := Lib.hid (PktD.cells_length po2)
          have h32 := Lib.hid (PktD.part_mac po2)
          have e1 : bits .xor .u8 (iv b) (iv y) = iv (b ^^^ y) := iv_xor8 b y
          clear hb hset hs2 po2
          go_wp2_with ((with_reducible refine wpList_op rfl ?_); intro _ hK; first
            | (refine dst_is 61 rfl ?_; refine wp_get 5 _ rfl rfl (by kernel_rfl) (v := .int .u8 (iv b)) (at_raw H 0 rfl hcell.out) (hK _ _ ?_))
            | (refine sto_is 65 rfl ?_; refine wp_store_sl 5 _ _ rfl (b := P) (off := 18 + m2) (v := .int .u8 (iv (b ^^^ y))) rfl rfl (by kernel_rfl) rfl 0 H rfl (by rw [List.size_toArray, hpl.out]; have := hm608.out; omega) (fun w' H => ?_); rw [hs3.out] at H; replace H : At w0 (raw P p2.cells.toArray 39 :: raw KB (v8 key).toArray 29 :: raw B (v8 body).toArray 24 :: F) w' := H; refine hK _ _ (Stop.go ?_)))
          refine Stop.un ?_
          go_wp2_with fail
          go_loopw [14] (fun i wr => ∃ c : Nat, c ≤ 2 ∧ i = .int .i64 (c : Int) ∧ At w0 (raw P p2.cells.toArray 39 :: raw KB (v8 key).toArray 29 :: raw B (v8 body).toArray 24 :: F) wr) (fun i _ => 2 - (intOf i).toNat)
          case atStart => exact ⟨0, by omega, rfl, H⟩
          case round =>
            clear H
            obtain ⟨c, hc, rfl, H⟩ := hrel
            rcases (show c = 0 ∨ c = 1 ∨ c = 2 by omega) with rfl | rfl | rfl
            · as_aux_lemma =>
                go_wp2_with ((with_reducible refine wpList_op rfl ?_); intro _ hK; first
                  | (refine dst_is 98 rfl ?_; refine wp_lda 29 _ rfl (b := KB) (bs := key) rfl (by kernel_rfl) (by rw [HK.out]; exact size_key) 1 H rfl (hK _ _ ?_))
                  | (refine dst_is 15 rfl ?_; refine wp_alloc_sl 29 rfl info_key H (fun C w' (H : At w0 (raw C (v8 (zs 32)).toArray 29 :: raw P p2.cells.toArray 39 :: raw KB (v8 key).toArray 29 :: raw B (v8 body).toArray 24 :: F) w') _ => hK _ _ ?_))
                  | (refine sto_is 15 rfl ?_; refine wp_sta 29 _ _ rfl (b := C) (bs := zs 32) (cs := key) rfl rfl (by rw [HK.out]; exact size_key) 0 H rfl (by rw [HK.out, zs_length]) (fun w' (H : At w0 (raw C (v8 key).toArray 29 :: raw P p2.cells.toArray 39 :: raw KB (v8 key).toArray 29 :: raw B (v8 body).toArray 24 :: F) w') => hK _ _ (Stop.go ?_))))
                refine Stop.un ?_
                obtain ⟨s, r, e, hpe⟩ := trip (peelOf key p2)
                have sr := peel_ok PO2.out hpe
                have hsl := Lib.hid (SlotD.cells_length sr.1.nonce sr.1.mac)
                have hrl := Lib.hid (PktD.cells_length sr.2)
                obtain ⟨E, hE⟩ : ∃ E : Int, (e : Int) = E := ⟨_, rfl⟩
                obtain ⟨T, hT⟩ : ∃ T, T = macOf key p2 := ⟨_, rfl⟩
                have HPE := Lib.hid hpe
                have HE := Lib.hid hE
                have HT := Lib.hid hT
                have hiff := Lib.hid (show ¬ (E = 4 ↔ T = p2.mac) by
                  by_cases hm : T = p2.mac
                  · have h2 : e ≠ 4 := by
                      have := @peel_e4 key p2 (by rw [← hT]; exact hm)
                      rw [hpe] at this
                      exact this
                    exact fun h => h2 (by have := h.2 hm; omega)
                  · have h2 := @peel_no key p2 (by rw [← hT]; exact hm)
                    rw [hpe] at h2
                    have h3 : e = 4 := congrArg (fun x => x.2.2) h2
                    exact fun h => hm (h.1 (by omega)))
                clear hpe sr hE hT
                go_wp2_with ((with_reducible refine wpList_op rfl ?_); intro _ hK; first
                  | (refine dst_is 106 rfl ?_; refine wp_lda 29 _ rfl (b := C) (bs := key) rfl (by kernel_rfl) (by rw [HK.out]; exact size_key) 0 H rfl (hK _ _ ?_))
                  | (refine dst_is 107 rfl ?_; refine wp_mid 39 _ rfl (b := P) (off := 0) rfl p2.cells (by kernel_rfl) (by rw [hpl2.out]; exact size_pkt) (at_blk H 1 rfl) (hK _ _ ?_)))
                refine (peel_is G H HK.out PO2.out HPE.out HE.out).mono ?_; rintro e' w' ⟨rfl, H⟩
                go_wp2_with ((with_reducible refine wpList_op rfl ?_); intro _ hK; first
                  | (refine dst_is 16 rfl ?_; refine wp_alloc_sl 45 rfl info_slot H (fun S w' (H : At w0 (raw S SlotD.zero.cells.toArray 45 :: raw C (v8 key).toArray 29 :: raw P p2.cells.toArray 39 :: raw KB (v8 key).toArray 29 :: raw B (v8 body).toArray 24 :: F) w') _ => hK _ _ ?_))
                  | (refine dst_is 17 rfl ?_; refine wp_alloc_sl 39 rfl info_pkt H (fun Q w' (H : At w0 (raw Q PktD.zero.cells.toArray 39 :: raw S SlotD.zero.cells.toArray 45 :: raw C (v8 key).toArray 29 :: raw P p2.cells.toArray 39 :: raw KB (v8 key).toArray 29 :: raw B (v8 body).toArray 24 :: F) w') _ => hK _ _ ?_))
                  | (refine sto_is 16 rfl ?_; refine wp_store_row_sl 45 _ _ rfl (b := S) (cells := s.cells.toArray) rfl rfl (by rw [List.size_toArray, hsl.out]; exact size_slot) (by simpa using SlotD.cells_one) 1 H rfl (by rw [List.size_toArray, List.size_toArray, hsl.out]; rfl) (fun w' H => ?_); replace H : At w0 (raw Q PktD.zero.cells.toArray 39 :: raw C (v8 key).toArray 29 :: raw P p2.cells.toArray 39 :: raw KB (v8 key).toArray 29 :: raw B (v8 body).toArray 24 :: F) w' := H.maskR [true, false]; refine hK _ _ ?_)
                  | (refine sto_is 17 rfl ?_; refine wp_store_row_sl 39 _ _ rfl (b := Q) (cells := r.cells.toArray) rfl rfl (by rw [List.size_toArray, hrl.out]; exact size_pkt) (by simpa using PktD.cells_one) 0 H rfl (by rw [List.size_toArray, List.size_toArray, hrl.out]; rfl) (fun w' H => ?_); replace H : At w0 (raw C (v8 key).toArray 29 :: raw P p2.cells.toArray 39 :: raw KB (v8 key).toArray 29 :: raw B (v8 body).toArray 24 :: F) w' := H.maskR [false]; refine hK _ _ (Stop.go ?_)))
                refine Stop.un ?_
                go_wp2_with fail
                refine wpM_begin [] ((At w0 (raw C (v8 key).toArray 29 :: raw P p2.cells.toArray 39 :: raw KB (v8 key).toArray 29 :: raw B (v8 body).toArray 24 :: F))) [(0, 2), (1, 2), (2, 2), (3, 1), (4, 1), (7, 2), (8, 2), (9, 1), (5, 0), (6, 0), (10, 2), (11, 2)] rfl (by kernel_rfl) (by kernel_rfl) ((H.drew)) ?_
                intro ops hOps hS
                replace H := H.drew
                refine wpM_free hOps rfl (fun _ _ _ h => h) (yl_move rfl _ rfl) ?_
                simp only [Act.put, Act.eval, List.setIfInBounds_toArray, List.set_cons_zero, List.set_cons_succ, Array.getD_eq_getD_getElem?, List.getElem?_toArray, List.getElem?_cons_zero, List.getElem?_cons_succ, Option.getD_some]
                refine wpM_free hOps rfl (fun _ _ _ h => h) (yl (v := .bool (decide (E = 4))) rfl (fun w _ => by go_simp; first | done | rfl | simp)) ?_
                simp only [Act.put, Act.eval, List.setIfInBounds_toArray, List.set_cons_zero, List.set_cons_succ, Array.getD_eq_getD_getElem?, List.getElem?_toArray, List.getElem?_cons_zero, List.getElem?_cons_succ, Option.getD_some]
                refine wpM_free hOps (v := ?vOp104) rfl (fun _ _ _ h => h) (yl rfl ?yOp104) ?_
                case yOp104 => (intro w hw; go_simp; first | done | rfl)
                simp only [Act.put, Act.eval, List.setIfInBounds_toArray, List.set_cons_zero, List.set_cons_succ, Array.getD_eq_getD_getElem?, List.getElem?_toArray, List.getElem?_cons_zero, List.getElem?_cons_succ, Option.getD_some]
                refine wpM_take hOps hS rfl (fun _ _ _ h => h) (yl rfl (fun w hw => exec_str_of (bs := key) rfl under_bytesT under_u8T under_strT rfl hw (see_blk 0 rfl HK.out.symm))) ?_
                simp only [Act.put, Act.eval, List.setIfInBounds_toArray, List.set_cons_zero, List.set_cons_succ, Array.getD_eq_getD_getElem?, List.getElem?_toArray, List.getElem?_cons_zero, List.getElem?_cons_succ, Option.getD_some]
                refine wpM_take hOps hS rfl (fun _ _ _ h => h) (yl_mid rfl 39 _ rfl (b := P) (off := 0) rfl p2.cells (by kernel_rfl) (by rw [hpl2.out]; exact size_pkt) (fun w hw => at_blk hw 1 rfl)) ?_
                simp only [Act.put, Act.eval, List.setIfInBounds_toArray, List.set_cons_zero, List.set_cons_succ, Array.getD_eq_getD_getElem?, List.getElem?_toArray, List.getElem?_cons_zero, List.getElem?_cons_succ, Option.getD_some]
                refine wpM_free hOps (v := ?vOp110) rfl (fun _ _ _ h => h) (yl rfl ?yOp110) ?_
                case yOp110 => (intro w hw; go_simp; first | done | rfl)
                simp only [Act.put, Act.eval, List.setIfInBounds_toArray, List.set_cons_zero, List.set_cons_succ, Array.getD_eq_getD_getElem?, List.getElem?_toArray, List.getElem?_cons_zero, List.getElem?_cons_succ, Option.getD_some]
                refine wpM_free hOps (v := ?vOp112) rfl (fun _ _ _ h => h) (yl rfl ?yOp112) ?_
                case yOp112 => (intro w hw; go_simp; first | done | rfl)
                simp only [Act.put, Act.eval, List.setIfInBounds_toArray, List.set_cons_zero, List.set_cons_succ, Array.getD_eq_getD_getElem?, List.getElem?_toArray, List.getElem?_cons_zero, List.getElem?_cons_succ, Option.getD_some]
                refine wpM_take hOps hS rfl (fun _ _ _ h => h) (yl rfl (fun w hw => exec_str_of (bs := p2.mac) rfl under_bytesT under_u8T under_strT rfl hw (see_part 1 rfl PO2.out.mac.symm (Nat.le_refl _) h32.out))) ?_
                simp only [Act.put, Act.eval, List.setIfInBounds_toArray, List.set_cons_zero, List.set_cons_succ, Array.getD_eq_getD_getElem?, List.getElem?_toArray, List.getElem?_cons_zero, List.getElem?_cons_succ, Option.getD_some]
                refine wpM_next hOps rfl rfl ?_
                intro K hK
                refine wp_call _ _ _ rfl Tryd.func13 rfl (by kernel_rfl) ?_
                simp only [List.map_toArray, List.map_cons, List.map_nil, Act.eval, Array.getD_eq_getD_getElem?, List.getElem?_toArray, List.getElem?_cons_zero, List.getElem?_cons_succ, Option.getD_some]
                refine (ROf_c H PO2.out).mono ?_; rintro e' w' ⟨rfl, H⟩
                have hS := (H)
                refine hK _ _ (.inr hS) ?_
                clear hK K
                simp only [Act.put, Act.eval, List.setIfInBounds_toArray, List.set_cons_zero, List.set_cons_succ, Array.getD_eq_getD_getElem?, List.getElem?_toArray, List.getElem?_cons_zero, List.getElem?_cons_succ, Option.getD_some]
                refine wpM_next hOps rfl rfl ?_
                intro K hK
                refine wp_call _ _ _ rfl Tryd.func12 rfl (by kernel_rfl) ?_
                simp only [List.map_toArray, List.map_cons, List.map_nil, Act.eval, Array.getD_eq_getD_getElem?, List.getElem?_toArray, List.getElem?_cons_zero, List.getElem?_cons_succ, Option.getD_some]
                refine (RMAC11_c H (by rw [HK.out]; omega) PO2.out).mono ?_; rintro e' w' ⟨rfl, H⟩
                rw [← HT.out]
                have hS := (H)
                refine hK _ _ (.inr hS) ?_
                clear hK K
                simp only [Act.put, Act.eval, List.setIfInBounds_toArray, List.set_cons_zero, List.set_cons_succ, Array.getD_eq_getD_getElem?, List.getElem?_toArray, List.getElem?_cons_zero, List.getElem?_cons_succ, Option.getD_some]
                refine wpM_free hOps rfl (fun _ _ _ h => h) (yl rfl (fun w _ => exec_seql (u := T) (v := p2.mac) rfl rfl rfl w)) ?_
                simp only [Act.put, Act.eval, List.setIfInBounds_toArray, List.set_cons_zero, List.set_cons_succ, Array.getD_eq_getD_getElem?, List.getElem?_toArray, List.getElem?_cons_zero, List.getElem?_cons_succ, Option.getD_some]
                refine wpM_free hOps rfl (fun _ _ _ h => h) (yl (v := .bool false) rfl (fun w _ => by go_simp; exact hiff.out)) ?_
                simp only [Act.put, Act.eval, List.setIfInBounds_toArray, List.set_cons_zero, List.set_cons_succ, Array.getD_eq_getD_getElem?, List.getElem?_toArray, List.getElem?_cons_zero, List.getElem?_cons_succ, Option.getD_some]
                refine wpM_end ?_
                clear hOps hS ops
                go_wp2_with fail
                first
                  | (refine ⟨?_, ?measure⟩; iterate 60 (try apply Exists.intro); refine ⟨?rel, rfl⟩)
                  | refine ⟨?rel, ?measure⟩
                case rel => exact ⟨1, by omega, by go_num, H.tail⟩
                case measure => simp [intOf]
            · as_aux_lemma =>
                obtain ⟨h, hx⟩ : ∃ h, hops[0]? = some h := ⟨_, List.getElem?_eq_getElem (by rw [← HN.out]; exact hn1.out)⟩
                obtain ⟨g, off, rfl⟩ := HS.out hn1.out
                have HH := Lib.hid hx
                have hkl := Lib.hid h.2.key
                have f4 := Lib.hid (show (h.1.cells.drop 2).take (v8 h.1.key).length = v8 h.1.key by rw [v8_length, h.2.key]; exact HopD.part_key h.2.key)
                have hn0 : (0 : Int) < (n : Int) := by have := hn1.out; omega
                clear hx
                go_wp2_with ((with_reducible refine wpList_op rfl ?_); intro _ hK; first
                  | (refine dst_is 98 rfl ?_; refine wp_lda 29 _ rfl (b := KB) (bs := key) rfl (by kernel_rfl) (by rw [HK.out]; exact size_key) 1 H rfl (hK _ _ ?_))
                  | (refine dst_is 15 rfl ?_; refine wp_alloc_sl 29 rfl info_key H (fun C w' (H : At w0 (raw C (v8 (zs 32)).toArray 29 :: raw P p2.cells.toArray 39 :: raw KB (v8 key).toArray 29 :: raw B (v8 body).toArray 24 :: F) w') _ => hK _ _ ?_))
                  | (refine sto_is 15 rfl ?_; refine wp_sta 29 _ _ rfl (b := C) (bs := zs 32) (cs := key) rfl rfl (by rw [HK.out]; exact size_key) 0 H rfl (by rw [HK.out, zs_length]) (fun w' (H : At w0 (raw C (v8 key).toArray 29 :: raw P p2.cells.toArray 39 :: raw KB (v8 key).toArray 29 :: raw B (v8 body).toArray 24 :: F) w') => hK _ _ (Stop.go ?_))))
                refine Stop.un ?_
                go_wp2_with ((with_reducible refine wpList_op rfl ?_); intro _ hK; first
                  | (refine dst_is 104 rfl ?_; refine wp_mid 29 _ rfl rfl (v8 h.1.key) (by kernel_rfl) (by rw [v8_length, hkl.out]; exact size_key) (by have := range_in ((((((HV.out.more _).more _).more _).more _)).elem el_hop H HH.out) f4.out; simpa using this) (hK _ _ ?_))
                  | (refine sto_is 15 rfl ?_; refine wp_sta 29 _ _ rfl (b := C) (bs := key) (cs := h.1.key) rfl rfl (by rw [hkl.out]; exact size_key) 0 H rfl (by rw [HK.out, hkl.out]) (fun w' (H : At w0 (raw C (v8 h.1.key).toArray 29 :: raw P p2.cells.toArray 39 :: raw KB (v8 key).toArray 29 :: raw B (v8 body).toArray 24 :: F) w') => hK _ _ (Stop.go ?_))))
                refine Stop.un ?_
                obtain ⟨s, r, e, hpe⟩ := trip (peelOf h.1.key p2)
                have sr := peel_ok PO2.out hpe
                have hsl := Lib.hid (SlotD.cells_length sr.1.nonce sr.1.mac)
                have hrl := Lib.hid (PktD.cells_length sr.2)
                obtain ⟨E, hE⟩ : ∃ E : Int, (e : Int) = E := ⟨_, rfl⟩
                obtain ⟨T, hT⟩ : ∃ T, T = macOf h.1.key p2 := ⟨_, rfl⟩
                have HPE := Lib.hid hpe
                have HE := Lib.hid hE
                have HT := Lib.hid hT
                have hiff := Lib.hid (show ¬ (E = 4 ↔ T = p2.mac) by
                  by_cases hm : T = p2.mac
                  · have h2 : e ≠ 4 := by
                      have := @peel_e4 h.1.key p2 (by rw [← hT]; exact hm)
                      rw [hpe] at this
                      exact this
                    exact fun h => h2 (by have := h.2 hm; omega)
                  · have h2 := @peel_no h.1.key p2 (by rw [← hT]; exact hm)
                    rw [hpe] at h2
                    have h3 : e = 4 := congrArg (fun x => x.2.2) h2
                    exact fun h => hm (h.1 (by omega)))
                clear hpe sr hE hT
                go_wp2_with ((with_reducible refine wpList_op rfl ?_); intro _ hK; first
                  | (refine dst_is 106 rfl ?_; refine wp_lda 29 _ rfl (b := C) (bs := h.1.key) rfl (by kernel_rfl) (by rw [hkl.out]; exact size_key) 0 H rfl (hK _ _ ?_))
                  | (refine dst_is 107 rfl ?_; refine wp_mid 39 _ rfl (b := P) (off := 0) rfl p2.cells (by kernel_rfl) (by rw [hpl2.out]; exact size_pkt) (at_blk H 1 rfl) (hK _ _ ?_)))
                refine (peel_is G H hkl.out PO2.out HPE.out HE.out).mono ?_; rintro e' w' ⟨rfl, H⟩
                go_wp2_with ((with_reducible refine wpList_op rfl ?_); intro _ hK; first
                  | (refine dst_is 16 rfl ?_; refine wp_alloc_sl 45 rfl info_slot H (fun S w' (H : At w0 (raw S SlotD.zero.cells.toArray 45 :: raw C (v8 h.1.key).toArray 29 :: raw P p2.cells.toArray 39 :: raw KB (v8 key).toArray 29 :: raw B (v8 body).toArray 24 :: F) w') _ => hK _ _ ?_))
                  | (refine dst_is 17 rfl ?_; refine wp_alloc_sl 39 rfl info_pkt H (fun Q w' (H : At w0 (raw Q PktD.zero.cells.toArray 39 :: raw S SlotD.zero.cells.toArray 45 :: raw C (v8 h.1.key).toArray 29 :: raw P p2.cells.toArray 39 :: raw KB (v8 key).toArray 29 :: raw B (v8 body).toArray 24 :: F) w') _ => hK _ _ ?_))
                  | (refine sto_is 16 rfl ?_; refine wp_store_row_sl 45 _ _ rfl (b := S) (cells := s.cells.toArray) rfl rfl (by rw [List.size_toArray, hsl.out]; exact size_slot) (by simpa using SlotD.cells_one) 1 H rfl (by rw [List.size_toArray, List.size_toArray, hsl.out]; rfl) (fun w' H => ?_); replace H : At w0 (raw Q PktD.zero.cells.toArray 39 :: raw C (v8 h.1.key).toArray 29 :: raw P p2.cells.toArray 39 :: raw KB (v8 key).toArray 29 :: raw B (v8 body).toArray 24 :: F) w' := H.maskR [true, false]; refine hK _ _ ?_)
                  | (refine sto_is 17 rfl ?_; refine wp_store_row_sl 39 _ _ rfl (b := Q) (cells := r.cells.toArray) rfl rfl (by rw [List.size_toArray, hrl.out]; exact size_pkt) (by simpa using PktD.cells_one) 0 H rfl (by rw [List.size_toArray, List.size_toArray, hrl.out]; rfl) (fun w' H => ?_); replace H : At w0 (raw C (v8 h.1.key).toArray 29 :: raw P p2.cells.toArray 39 :: raw KB (v8 key).toArray 29 :: raw B (v8 body).toArray 24 :: F) w' := H.maskR [false]; refine hK _ _ (Stop.go ?_)))
                refine Stop.un ?_
                go_wp2_with fail
                refine wpM_begin [] ((At w0 (raw C (v8 h.1.key).toArray 29 :: raw P p2.cells.toArray 39 :: raw KB (v8 key).toArray 29 :: raw B (v8 body).toArray 24 :: F))) [(0, 2), (1, 2), (2, 2), (3, 1), (4, 1), (7, 2), (8, 2), (9, 1), (5, 0), (6, 0), (10, 2), (11, 2)] rfl (by kernel_rfl) (by kernel_rfl) ((H.drew)) ?_
                intro ops hOps hS
                replace H := H.drew
                refine wpM_free hOps rfl (fun _ _ _ h => h) (yl_move rfl _ rfl) ?_
                simp only [Act.put, Act.eval, List.setIfInBounds_toArray, List.set_cons_zero, List.set_cons_succ, Array.getD_eq_getD_getElem?, List.getElem?_toArray, List.getElem?_cons_zero, List.getElem?_cons_succ, Option.getD_some]
                refine wpM_free hOps rfl (fun _ _ _ h => h) (yl (v := .bool (decide (E = 4))) rfl (fun w _ => by go_simp; first | done | rfl | simp)) ?_
                simp only [Act.put, Act.eval, List.setIfInBounds_toArray, List.set_cons_zero, List.set_cons_succ, Array.getD_eq_getD_getElem?, List.getElem?_toArray, List.getElem?_cons_zero, List.getElem?_cons_succ, Option.getD_some]
                refine wpM_free hOps (v := ?vOp131) rfl (fun _ _ _ h => h) (yl rfl ?yOp131) ?_
                case yOp131 => (intro w hw; go_simp; first | done | rfl)
                simp only [Act.put, Act.eval, List.setIfInBounds_toArray, List.set_cons_zero, List.set_cons_succ, Array.getD_eq_getD_getElem?, List.getElem?_toArray, List.getElem?_cons_zero, List.getElem?_cons_succ, Option.getD_some]
                refine wpM_take hOps hS rfl (fun _ _ _ h => h) (yl rfl (fun w hw => exec_str_of (bs := h.1.key) rfl under_bytesT under_u8T under_strT rfl hw (see_blk 0 rfl hkl.out.symm))) ?_
                simp only [Act.put, Act.eval, List.setIfInBounds_toArray, List.set_cons_zero, List.set_cons_succ, Array.getD_eq_getD_getElem?, List.getElem?_toArray, List.getElem?_cons_zero, List.getElem?_cons_succ, Option.getD_some]
                refine wpM_take hOps hS rfl (fun _ _ _ h => h) (yl_mid rfl 39 _ rfl (b := P) (off := 0) rfl p2.cells (by kernel_rfl) (by rw [hpl2.out]; exact size_pkt) (fun w hw => at_blk hw 1 rfl)) ?_
                simp only [Act.put, Act.eval, List.setIfInBounds_toArray, List.set_cons_zero, List.set_cons_succ, Array.getD_eq_getD_getElem?, List.getElem?_toArray, List.getElem?_cons_zero, List.getElem?_cons_succ, Option.getD_some]
                refine wpM_free hOps (v := ?vOp137) rfl (fun _ _ _ h => h) (yl rfl ?yOp137) ?_
                case yOp137 => (intro w hw; go_simp; first | done | rfl)
                simp only [Act.put, Act.eval, List.setIfInBounds_toArray, List.set_cons_zero, List.set_cons_succ, Array.getD_eq_getD_getElem?, List.getElem?_toArray, List.getElem?_cons_zero, List.getElem?_cons_succ, Option.getD_some]
                refine wpM_free hOps (v := ?vOp139) rfl (fun _ _ _ h => h) (yl rfl ?yOp139) ?_
                case yOp139 => (intro w hw; go_simp; first | done | rfl)
                simp only [Act.put, Act.eval, List.setIfInBounds_toArray, List.set_cons_zero, List.set_cons_succ, Array.getD_eq_getD_getElem?, List.getElem?_toArray, List.getElem?_cons_zero, List.getElem?_cons_succ, Option.getD_some]
                refine wpM_take hOps hS rfl (fun _ _ _ h => h) (yl rfl (fun w hw => exec_str_of (bs := p2.mac) rfl under_bytesT under_u8T under_strT rfl hw (see_part 1 rfl PO2.out.mac.symm (Nat.le_refl _) h32.out))) ?_
                simp only [Act.put, Act.eval, List.setIfInBounds_toArray, List.set_cons_zero, List.set_cons_succ, Array.getD_eq_getD_getElem?, List.getElem?_toArray, List.getElem?_cons_zero, List.getElem?_cons_succ, Option.getD_some]
                refine wpM_next hOps rfl rfl ?_
                intro K hK
                refine wp_call _ _ _ rfl Tryd.func13 rfl (by kernel_rfl) ?_
                simp only [List.map_toArray, List.map_cons, List.map_nil, Act.eval, Array.getD_eq_getD_getElem?, List.getElem?_toArray, List.getElem?_cons_zero, List.getElem?_cons_succ, Option.getD_some]
                refine (ROf_c H PO2.out).mono ?_; rintro e' w' ⟨rfl, H⟩
                have hS := (H)
                refine hK _ _ (.inr hS) ?_
                clear hK K
                simp only [Act.put, Act.eval, List.setIfInBounds_toArray, List.set_cons_zero, List.set_cons_succ, Array.getD_eq_getD_getElem?, List.getElem?_toArray, List.getElem?_cons_zero, List.getElem?_cons_succ, Option.getD_some]
                refine wpM_next hOps rfl rfl ?_
                intro K hK
                refine wp_call _ _ _ rfl Tryd.func12 rfl (by kernel_rfl) ?_
                simp only [List.map_toArray, List.map_cons, List.map_nil, Act.eval, Array.getD_eq_getD_getElem?, List.getElem?_toArray, List.getElem?_cons_zero, List.getElem?_cons_succ, Option.getD_some]
                refine (RMAC11_c H (by rw [hkl.out]; omega) PO2.out).mono ?_; rintro e' w' ⟨rfl, H⟩
                rw [← HT.out]
                have hS := (H)
                refine hK _ _ (.inr hS) ?_
                clear hK K
                simp only [Act.put, Act.eval, List.setIfInBounds_toArray, List.set_cons_zero, List.set_cons_succ, Array.getD_eq_getD_getElem?, List.getElem?_toArray, List.getElem?_cons_zero, List.getElem?_cons_succ, Option.getD_some]
                refine wpM_free hOps rfl (fun _ _ _ h => h) (yl rfl (fun w _ => exec_seql (u := T) (v := p2.mac) rfl rfl rfl w)) ?_
                simp only [Act.put, Act.eval, List.setIfInBounds_toArray, List.set_cons_zero, List.set_cons_succ, Array.getD_eq_getD_getElem?, List.getElem?_toArray, List.getElem?_cons_zero, List.getElem?_cons_succ, Option.getD_some]
                refine wpM_free hOps rfl (fun _ _ _ h => h) (yl (v := .bool false) rfl (fun w _ => by go_simp; exact hiff.out)) ?_
                simp only [Act.put, Act.eval, List.setIfInBounds_toArray, List.set_cons_zero, List.set_cons_succ, Array.getD_eq_getD_getElem?, List.getElem?_toArray, List.getElem?_cons_zero, List.getElem?_cons_succ, Option.getD_some]
                refine wpM_end ?_
                clear hOps hS ops
                go_wp2_with fail
                first
                  | (refine ⟨?_, ?measure⟩; iterate 60 (try apply Exists.intro); refine ⟨?rel, rfl⟩)
                  | refine ⟨?rel, ?measure⟩
                case rel => exact ⟨2, by omega, by go_num, H.tail⟩
                case measure => simp [intOf]
            · go_wp2_with fail
              exact ⟨rfl, _, results_tmp rfl _ _ _, rfl, H.maskR [false, false, false]⟩
      · by_cases h32' : m2 < 32
        · as_aux_lemma =>
            have k16 : ¬ (m2 : Int) < 16 := by omega
            have k32 : (m2 : Int) < 32 := by omega
            obtain ⟨d, hd⟩ : ∃ d, d + 16 = m2 := ⟨m2 - 16, by omega⟩
            have hkk := Lib.hid (show d < 608 by have := hm608.out; omega)
            obtain ⟨b, hb, hset⟩ := pkt_byte PO.out hkk.out
            obtain ⟨p2, po2, hs2⟩ := hset (b ^^^ y)
            have hcell := Lib.hid (show p.cells[2 + d]? = some (.int .u8 (iv b)) by rw [show 2 + d = 2 + (d) by omega]; exact hb)
            have hs3 := Lib.hid (show p.cells.toArray.setIfInBounds (2 + d) (.int .u8 (iv (b ^^^ y))) = p2.cells.toArray by rw [show 2 + d = 2 + (d) by omega]; exact hs2)
            have PO2 := Lib.hid po2
            have hpl2 := Lib.hid (PktD.cells_length po2)
            have h32 := Lib.hid (PktD.part_mac po2)
            have e1 : bits .xor .u8 (iv b) (iv y) = iv (b ^^^ y) := iv_xor8 b y
            have s16 : (m2 : Int) - 16 = (d : Int) := by omega
            have t16 : IntKind.i64.wrap (d : Int) = (d : Int) := by rw [IntKind.wrap_i64]; have := hm608.out; omega
            have u16 : (d : Int) < 608 := by have := hm608.out; omega
            have d16 : (d : Int) < 16 := by omega
            clear hb hset hs2 po2
            go_wp2_with ((with_reducible refine wpList_op rfl ?_); intro _ hK; first
              | (refine dst_is 75 rfl ?_; refine wp_get 5 _ rfl rfl (by kernel_rfl) (v := .int .u8 (iv b)) (at_raw H 0 rfl hcell.out) (hK _ _ ?_))
              | (refine sto_is 79 rfl ?_; refine wp_store_sl 5 _ _ rfl (b := P) (off := 2 + d) (v := .int .u8 (iv (b ^^^ y))) rfl rfl (by kernel_rfl) rfl 0 H rfl (by rw [List.size_toArray, hpl.out]; have := hm608.out; omega) (fun w' H => ?_); rw [hs3.out] at H; replace H : At w0 (raw P p2.cells.toArray 39 :: raw KB (v8 key).toArray 29 :: raw B (v8 body).toArray 24 :: F) w' := H; refine hK _ _ (Stop.go ?_)))
            refine Stop.un ?_
            go_wp2_with fail
            go_loopw [14] (fun i wr => ∃ c : Nat, c ≤ 2 ∧ i = .int .i64 (c : Int) ∧ At w0 (raw P p2.cells.toArray 39 :: raw KB (v8 key).toArray 29 :: raw B (v8 body).toArray 24 :: F) wr) (fun i _ => 2 - (intOf i).toNat)
            case atStart => exact ⟨0, by omega, rfl, H⟩
            case round =>
              clear H
              obtain ⟨c, hc, rfl, H⟩ := hrel
              rcases (show c = 0 ∨ c = 1 ∨ c = 2 by omega) with rfl | rfl | rfl
              · as_aux_lemma =>
                  go_wp2_with ((with_reducible refine wpList_op rfl ?_); intro _ hK; first
                    | (refine dst_is 98 rfl ?_; refine wp_lda 29 _ rfl (b := KB) (bs := key) rfl (by kernel_rfl) (by rw [HK.out]; exact size_key) 1 H rfl (hK _ _ ?_))
                    | (refine dst_is 15 rfl ?_; refine wp_alloc_sl 29 rfl info_key H (fun C w' (H : At w0 (raw C (v8 (zs 32)).toArray 29 :: raw P p2.cells.toArray 39 :: raw KB (v8 key).toArray 29 :: raw B (v8 body).toArray 24 :: F) w') _ => hK _ _ ?_))
                    | (refine sto_is 15 rfl ?_; refine wp_sta 29 _ _ rfl (b := C) (bs := zs 32) (cs := key) rfl rfl (by rw [HK.out]; exact size_key) 0 H rfl (by rw [HK.out, zs_length]) (fun w' (H : At w0 (raw C (v8 key).toArray 29 :: raw P p2.cells.toArray 39 :: raw KB (v8 key).toArray 29 :: raw B (v8 body).toArray 24 :: F) w') => hK _ _ (Stop.go ?_))))
                  refine Stop.un ?_
                  obtain ⟨s, r, e, hpe⟩ := trip (peelOf key p2)
                  have sr := peel_ok PO2.out hpe
                  have hsl := Lib.hid (SlotD.cells_length sr.1.nonce sr.1.mac)
                  have hrl := Lib.hid (PktD.cells_length sr.2)
                  obtain ⟨E, hE⟩ : ∃ E : Int, (e : Int) = E := ⟨_, rfl⟩
                  obtain ⟨T, hT⟩ : ∃ T, T = macOf key p2 := ⟨_, rfl⟩
                  have HPE := Lib.hid hpe
                  have HE := Lib.hid hE
                  have HT := Lib.hid hT
                  have hiff := Lib.hid (show ¬ (E = 4 ↔ T = p2.mac) by
                    by_cases hm : T = p2.mac
                    · have h2 : e ≠ 4 := by
                        have := @peel_e4 key p2 (by rw [← hT]; exact hm)
                        rw [hpe] at this
                        exact this
                      exact fun h => h2 (by have := h.2 hm; omega)
                    · have h2 := @peel_no key p2 (by rw [← hT]; exact hm)
                      rw [hpe] at h2
                      have h3 : e = 4 := congrArg (fun x => x.2.2) h2
                      exact fun h => hm (h.1 (by omega)))
                  clear hpe sr hE hT
                  go_wp2_with ((with_reducible refine wpList_op rfl ?_); intro _ hK; first
                    | (refine dst_is 106 rfl ?_; refine wp_lda 29 _ rfl (b := C) (bs := key) rfl (by kernel_rfl) (by rw [HK.out]; exact size_key) 0 H rfl (hK _ _ ?_))
                    | (refine dst_is 107 rfl ?_; refine wp_mid 39 _ rfl (b := P) (off := 0) rfl p2.cells (by kernel_rfl) (by rw [hpl2.out]; exact size_pkt) (at_blk H 1 rfl) (hK _ _ ?_)))
                  refine (peel_is G H HK.out PO2.out HPE.out HE.out).mono ?_; rintro e' w' ⟨rfl, H⟩
                  go_wp2_with ((with_reducible refine wpList_op rfl ?_); intro _ hK; first
                    | (refine dst_is 16 rfl ?_; refine wp_alloc_sl 45 rfl info_slot H (fun S w' (H : At w0 (raw S SlotD.zero.cells.toArray 45 :: raw C (v8 key).toArray 29 :: raw P p2.cells.toArray 39 :: raw KB (v8 key).toArray 29 :: raw B (v8 body).toArray 24 :: F) w') _ => hK _ _ ?_))
                    | (refine dst_is 17 rfl ?_; refine wp_alloc_sl 39 rfl info_pkt H (fun Q w' (H : At w0 (raw Q PktD.zero.cells.toArray 39 :: raw S SlotD.zero.cells.toArray 45 :: raw C (v8 key).toArray 29 :: raw P p2.cells.toArray 39 :: raw KB (v8 key).toArray 29 :: raw B (v8 body).toArray 24 :: F) w') _ => hK _ _ ?_))
                    | (refine sto_is 16 rfl ?_; refine wp_store_row_sl 45 _ _ rfl (b := S) (cells := s.cells.toArray) rfl rfl (by rw [List.size_toArray, hsl.out]; exact size_slot) (by simpa using SlotD.cells_one) 1 H rfl (by rw [List.size_toArray, List.size_toArray, hsl.out]; rfl) (fun w' H => ?_); replace H : At w0 (raw Q PktD.zero.cells.toArray 39 :: raw C (v8 key).toArray 29 :: raw P p2.cells.toArray 39 :: raw KB (v8 key).toArray 29 :: raw B (v8 body).toArray 24 :: F) w' := H.maskR [true, false]; refine hK _ _ ?_)
                    | (refine sto_is 17 rfl ?_; refine wp_store_row_sl 39 _ _ rfl (b := Q) (cells := r.cells.toArray) rfl rfl (by rw [List.size_toArray, hrl.out]; exact size_pkt) (by simpa using PktD.cells_one) 0 H rfl (by rw [List.size_toArray, List.size_toArray, hrl.out]; rfl) (fun w' H => ?_); replace H : At w0 (raw C (v8 key).toArray 29 :: raw P p2.cells.toArray 39 :: raw KB (v8 key).toArray 29 :: raw B (v8 body).toArray 24 :: F) w' := H.maskR [false]; refine hK _ _ (Stop.go ?_)))
                  refine Stop.un ?_
                  go_wp2_with fail
                  refine wpM_begin [] ((At w0 (raw C (v8 key).toArray 29 :: raw P p2.cells.toArray 39 :: raw KB (v8 key).toArray 29 :: raw B (v8 body).toArray 24 :: F))) [(0, 2), (1, 2), (2, 2), (3, 1), (4, 1), (7, 2), (8, 2), (9, 1), (5, 0), (6, 0), (10, 2), (11, 2)] rfl (by kernel_rfl) (by kernel_rfl) ((H.drew)) ?_
                  intro ops hOps hS
                  replace H := H.drew
                  refine wpM_free hOps rfl (fun _ _ _ h => h) (yl_move rfl _ rfl) ?_
                  simp only [Act.put, Act.eval, List.setIfInBounds_toArray, List.set_cons_zero, List.set_cons_succ, Array.getD_eq_getD_getElem?, List.getElem?_toArray, List.getElem?_cons_zero, List.getElem?_cons_succ, Option.getD_some]
                  refine wpM_free hOps rfl (fun _ _ _ h => h) (yl (v := .bool (decide (E = 4))) rfl (fun w _ => by go_simp; first | done | rfl | simp)) ?_
                  simp only [Act.put, Act.eval, List.setIfInBounds_toArray, List.set_cons_zero, List.set_cons_succ, Array.getD_eq_getD_getElem?, List.getElem?_toArray, List.getElem?_cons_zero, List.getElem?_cons_succ, Option.getD_some]
                  refine wpM_free hOps (v := ?vOp158) rfl (fun _ _ _ h => h) (yl rfl ?yOp158) ?_
                  case yOp158 => (intro w hw; go_simp; first | done | rfl)
                  simp only [Act.put, Act.eval, List.setIfInBounds_toArray, List.set_cons_zero, List.set_cons_succ, Array.getD_eq_getD_getElem?, List.getElem?_toArray, List.getElem?_cons_zero, List.getElem?_cons_succ, Option.getD_some]
                  refine wpM_take hOps hS rfl (fun _ _ _ h => h) (yl rfl (fun w hw => exec_str_of (bs := key) rfl under_bytesT under_u8T under_strT rfl hw (see_blk 0 rfl HK.out.symm))) ?_
                  simp only [Act.put, Act.eval, List.setIfInBounds_toArray, List.set_cons_zero, List.set_cons_succ, Array.getD_eq_getD_getElem?, List.getElem?_toArray, List.getElem?_cons_zero, List.getElem?_cons_succ, Option.getD_some]
                  refine wpM_take hOps hS rfl (fun _ _ _ h => h) (yl_mid rfl 39 _ rfl (b := P) (off := 0) rfl p2.cells (by kernel_rfl) (by rw [hpl2.out]; exact size_pkt) (fun w hw => at_blk hw 1 rfl)) ?_
                  simp only [Act.put, Act.eval, List.setIfInBounds_toArray, List.set_cons_zero, List.set_cons_succ, Array.getD_eq_getD_getElem?, List.getElem?_toArray, List.getElem?_cons_zero, List.getElem?_cons_succ, Option.getD_some]
                  refine wpM_free hOps (v := ?vOp164) rfl (fun _ _ _ h => h) (yl rfl ?yOp164) ?_
                  case yOp164 => (intro w hw; go_simp; first | done | rfl)
                  simp only [Act.put, Act.eval, List.setIfInBounds_toArray, List.set_cons_zero, List.set_cons_succ, Array.getD_eq_getD_getElem?, List.getElem?_toArray, List.getElem?_cons_zero, List.getElem?_cons_succ, Option.getD_some]
                  refine wpM_free hOps (v := ?vOp166) rfl (fun _ _ _ h => h) (yl rfl ?yOp166) ?_
                  case yOp166 => (intro w hw; go_simp; first | done | rfl)
                  simp only [Act.put, Act.eval, List.setIfInBounds_toArray, List.set_cons_zero, List.set_cons_succ, Array.getD_eq_getD_getElem?, List.getElem?_toArray, List.getElem?_cons_zero, List.getElem?_cons_succ, Option.getD_some]
                  refine wpM_take hOps hS rfl (fun _ _ _ h => h) (yl rfl (fun w hw => exec_str_of (bs := p2.mac) rfl under_bytesT under_u8T under_strT rfl hw (see_part 1 rfl PO2.out.mac.symm (Nat.le_refl _) h32.out))) ?_
                  simp only [Act.put, Act.eval, List.setIfInBounds_toArray, List.set_cons_zero, List.set_cons_succ, Array.getD_eq_getD_getElem?, List.getElem?_toArray, List.getElem?_cons_zero, List.getElem?_cons_succ, Option.getD_some]
                  refine wpM_next hOps rfl rfl ?_
                  intro K hK
                  refine wp_call _ _ _ rfl Tryd.func13 rfl (by kernel_rfl) ?_
                  simp only [List.map_toArray, List.map_cons, List.map_nil, Act.eval, Array.getD_eq_getD_getElem?, List.getElem?_toArray, List.getElem?_cons_zero, List.getElem?_cons_succ, Option.getD_some]
                  refine (ROf_c H PO2.out).mono ?_; rintro e' w' ⟨rfl, H⟩
                  have hS := (H)
                  refine hK _ _ (.inr hS) ?_
                  clear hK K
                  simp only [Act.put, Act.eval, List.setIfInBounds_toArray, List.set_cons_zero, List.set_cons_succ, Array.getD_eq_getD_getElem?, List.getElem?_toArray, List.getElem?_cons_zero, List.getElem?_cons_succ, Option.getD_some]
                  refine wpM_next hOps rfl rfl ?_
                  intro K hK
                  refine wp_call _ _ _ rfl Tryd.func12 rfl (by kernel_rfl) ?_
                  simp only [List.map_toArray, List.map_cons, List.map_nil, Act.eval, Array.getD_eq_getD_getElem?, List.getElem?_toArray, List.getElem?_cons_zero, List.getElem?_cons_succ, Option.getD_some]
                  refine (RMAC11_c H (by rw [HK.out]; omega) PO2.out).mono ?_; rintro e' w' ⟨rfl, H⟩
                  rw [← HT.out]
                  have hS := (H)
                  refine hK _ _ (.inr hS) ?_
                  clear hK K
                  simp only [Act.put, Act.eval, List.setIfInBounds_toArray, List.set_cons_zero, List.set_cons_succ, Array.getD_eq_getD_getElem?, List.getElem?_toArray, List.getElem?_cons_zero, List.getElem?_cons_succ, Option.getD_some]
                  refine wpM_free hOps rfl (fun _ _ _ h => h) (yl rfl (fun w _ => exec_seql (u := T) (v := p2.mac) rfl rfl rfl w)) ?_
                  simp only [Act.put, Act.eval, List.setIfInBounds_toArray, List.set_cons_zero, List.set_cons_succ, Array.getD_eq_getD_getElem?, List.getElem?_toArray, List.getElem?_cons_zero, List.getElem?_cons_succ, Option.getD_some]
                  refine wpM_free hOps rfl (fun _ _ _ h => h) (yl (v := .bool false) rfl (fun w _ => by go_simp; exact hiff.out)) ?_
                  simp only [Act.put, Act.eval, List.setIfInBounds_toArray, List.set_cons_zero, List.set_cons_succ, Array.getD_eq_getD_getElem?, List.getElem?_toArray, List.getElem?_cons_zero, List.getElem?_cons_succ, Option.getD_some]
                  refine wpM_end ?_
                  clear hOps hS ops
                  go_wp2_with fail
                  first
                    | (refine ⟨?_, ?measure⟩; iterate 60 (try apply Exists.intro); refine ⟨?rel, rfl⟩)
                    | refine ⟨?rel, ?measure⟩
                  case rel => exact ⟨1, by omega, by go_num, H.tail⟩
                  case measure => simp [intOf]
              · as_aux_lemma =>
                  obtain ⟨h, hx⟩ : ∃ h, hops[0]? = some h := ⟨_, List.getElem?_eq_getElem (by rw [← HN.out]; exact hn1.out)⟩
                  obtain ⟨g, off, rfl⟩ := HS.out hn1.out
                  have HH := Lib.hid hx
                  have hkl := Lib.hid h.2.key
                  have f4 := Lib.hid (show (h.1.cells.drop 2).take (v8 h.1.key).length = v8 h.1.key by rw [v8_length, h.2.key]; exact HopD.part_key h.2.key)
                  have hn0 : (0 : Int) < (n : Int) := by have := hn1.out; omega
                  clear hx
                  go_wp2_with ((with_reducible refine wpList_op rfl ?_); intro _ hK; first
                    | (refine dst_is 98 rfl ?_; refine wp_lda 29 _ rfl (b := KB) (bs := key) rfl (by kernel_rfl) (by rw [HK.out]; exact size_key) 1 H rfl (hK _ _ ?_))
                    | (refine dst_is 15 rfl ?_; refine wp_alloc_sl 29 rfl info_key H (fun C w' (H : At w0 (raw C (v8 (zs 32)).toArray 29 :: raw P p2.cells.toArray 39 :: raw KB (v8 key).toArray 29 :: raw B (v8 body).toArray 24 :: F) w') _ => hK _ _ ?_))
                    | (refine sto_is 15 rfl ?_; refine wp_sta 29 _ _ rfl (b := C) (bs := zs 32) (cs := key) rfl rfl (by rw [HK.out]; exact size_key) 0 H rfl (by rw [HK.out, zs_length]) (fun w' (H : At w0 (raw C (v8 key).toArray 29 :: raw P p2.cells.toArray 39 :: raw KB (v8 key).toArray 29 :: raw B (v8 body).toArray 24 :: F) w') => hK _ _ (Stop.go ?_))))
                  refine Stop.un ?_
                  go_wp2_with ((with_reducible refine wpList_op rfl ?_); intro _ hK; first
                    | (refine dst_is 104 rfl ?_; refine wp_mid 29 _ rfl rfl (v8 h.1.key) (by kernel_rfl) (by rw [v8_length, hkl.out]; exact size_key) (by have := range_in ((((((HV.out.more _).more _).more _).more _)).elem el_hop H HH.out) f4.out; simpa using this) (hK _ _ ?_))
                    | (refine sto_is 15 rfl ?_; refine wp_sta 29 _ _ rfl (b := C) (bs := key) (cs := h.1.key) rfl rfl (by rw [hkl.out]; exact size_key) 0 H rfl (by rw [HK.out, hkl.out]) (fun w' (H : At w0 (raw C (v8 h.1.key).toArray 29 :: raw P p2.cells.toArray 39 :: raw KB (v8 key).toArray 29 :: raw B (v8 body).toArray 24 :: F) w') => hK _ _ (Stop.go ?_))))
                  refine Stop.un ?_
                  obtain ⟨s, r, e, hpe⟩ := trip (peelOf h.1.key p2)
                  have sr := peel_ok PO2.out hpe
                  have hsl := Lib.hid (SlotD.cells_length sr.1.nonce sr.1.mac)
                  have hrl := Lib.hid (PktD.cells_length sr.2)
                  obtain ⟨E, hE⟩ : ∃ E : Int, (e : Int) = E := ⟨_, rfl⟩
                  obtain ⟨T, hT⟩ : ∃ T, T = macOf h.1.key p2 := ⟨_, rfl⟩
                  have HPE := Lib.hid hpe
                  have HE := Lib.hid hE
                  have HT := Lib.hid hT
                  have hiff := Lib.hid (show ¬ (E = 4 ↔ T = p2.mac) by
                    by_cases hm : T = p2.mac
                    · have h2 : e ≠ 4 := by
                        have := @peel_e4 h.1.key p2 (by rw [← hT]; exact hm)
                        rw [hpe] at this
                        exact this
                      exact fun h => h2 (by have := h.2 hm; omega)
                    · have h2 := @peel_no h.1.key p2 (by rw [← hT]; exact hm)
                      rw [hpe] at h2
                      have h3 : e = 4 := congrArg (fun x => x.2.2) h2
                      exact fun h => hm (h.1 (by omega)))
                  clear hpe sr hE hT
                  go_wp2_with ((with_reducible refine wpList_op rfl ?_); intro _ hK; first
                    | (refine dst_is 106 rfl ?_; refine wp_lda 29 _ rfl (b := C) (bs := h.1.key) rfl (by kernel_rfl) (by rw [hkl.out]; exact size_key) 0 H rfl (hK _ _ ?_))
                    | (refine dst_is 107 rfl ?_; refine wp_mid 39 _ rfl (b := P) (off := 0) rfl p2.cells (by kernel_rfl) (by rw [hpl2.out]; exact size_pkt) (at_blk H 1 rfl) (hK _ _ ?_)))
                  refine (peel_is G H hkl.out PO2.out HPE.out HE.out).mono ?_; rintro e' w' ⟨rfl, H⟩
                  go_wp2_with ((with_reducible refine wpList_op rfl ?_); intro _ hK; first
                    | (refine dst_is 16 rfl ?_; refine wp_alloc_sl 45 rfl info_slot H (fun S w' (H : At w0 (raw S SlotD.zero.cells.toArray 45 :: raw C (v8 h.1.key).toArray 29 :: raw P p2.cells.toArray 39 :: raw KB (v8 key).toArray 29 :: raw B (v8 body).toArray 24 :: F) w') _ => hK _ _ ?_))
                    | (refine dst_is 17 rfl ?_; refine wp_alloc_sl 39 rfl info_pkt H (fun Q w' (H : At w0 (raw Q PktD.zero.cells.toArray 39 :: raw S SlotD.zero.cells.toArray 45 :: raw C (v8 h.1.key).toArray 29 :: raw P p2.cells.toArray 39 :: raw KB (v8 key).toArray 29 :: raw B (v8 body).toArray 24 :: F) w') _ => hK _ _ ?_))
                    | (refine sto_is 16 rfl ?_; refine wp_store_row_sl 45 _ _ rfl (b := S) (cells := s.cells.toArray) rfl rfl (by rw [List.size_toArray, hsl.out]; exact size_slot) (by simpa using SlotD.cells_one) 1 H rfl (by rw [List.size_toArray, List.size_toArray, hsl.out]; rfl) (fun w' H => ?_); replace H : At w0 (raw Q PktD.zero.cells.toArray 39 :: raw C (v8 h.1.key).toArray 29 :: raw P p2.cells.toArray 39 :: raw KB (v8 key).toArray 29 :: raw B (v8 body).toArray 24 :: F) w' := H.maskR [true, false]; refine hK _ _ ?_)
                    | (refine sto_is 17 rfl ?_; refine wp_store_row_sl 39 _ _ rfl (b := Q) (cells := r.cells.toArray) rfl rfl (by rw [List.size_toArray, hrl.out]; exact size_pkt) (by simpa using PktD.cells_one) 0 H rfl (by rw [List.size_toArray, List.size_toArray, hrl.out]; rfl) (fun w' H => ?_); replace H : At w0 (raw C (v8 h.1.key).toArray 29 :: raw P p2.cells.toArray 39 :: raw KB (v8 key).toArray 29 :: raw B (v8 body).toArray 24 :: F) w' := H.maskR [false]; refine hK _ _ (Stop.go ?_)))
                  refine Stop.un ?_
                  go_wp2_with fail
                  refine wpM_begin [] ((At w0 (raw C (v8 h.1.key).toArray 29 :: raw P p2.cells.toArray 39 :: raw KB (v8 key).toArray 29 :: raw B (v8 body).toArray 24 :: F))) [(0, 2), (1, 2), (2, 2), (3, 1), (4, 1), (7, 2), (8, 2), (9, 1), (5, 0), (6, 0), (10, 2), (11, 2)] rfl (by kernel_rfl) (by kernel_rfl) ((H.drew)) ?_
                  intro ops hOps hS
                  replace H := H.drew
                  refine wpM_free hOps rfl (fun _ _ _ h => h) (yl_move rfl _ rfl) ?_
                  simp only [Act.put, Act.eval, List.setIfInBounds_toArray, List.set_cons_zero, List.set_cons_succ, Array.getD_eq_getD_getElem?, List.getElem?_toArray, List.getElem?_cons_zero, List.getElem?_cons_succ, Option.getD_some]
                  refine wpM_free hOps rfl (fun _ _ _ h => h) (yl (v := .bool (decide (E = 4))) rfl (fun w _ => by go_simp; first | done | rfl | simp)) ?_
                  simp only [Act.put, Act.eval, List.setIfInBounds_toArray, List.set_cons_zero, List.set_cons_succ, Array.getD_eq_getD_getElem?, List.getElem?_toArray, List.getElem?_cons_zero, List.getElem?_cons_succ, Option.getD_some]
                  refine wpM_free hOps (v := ?vOp185) rfl (fun _ _ _ h => h) (yl rfl ?yOp185) ?_
                  case yOp185 => (intro w hw; go_simp; first | done | rfl)
                  simp only [Act.put, Act.eval, List.setIfInBounds_toArray, List.set_cons_zero, List.set_cons_succ, Array.getD_eq_getD_getElem?, List.getElem?_toArray, List.getElem?_cons_zero, List.getElem?_cons_succ, Option.getD_some]
                  refine wpM_take hOps hS rfl (fun _ _ _ h => h) (yl rfl (fun w hw => exec_str_of (bs := h.1.key) rfl under_bytesT under_u8T under_strT rfl hw (see_blk 0 rfl hkl.out.symm))) ?_
                  simp only [Act.put, Act.eval, List.setIfInBounds_toArray, List.set_cons_zero, List.set_cons_succ, Array.getD_eq_getD_getElem?, List.getElem?_toArray, List.getElem?_cons_zero, List.getElem?_cons_succ, Option.getD_some]
                  refine wpM_take hOps hS rfl (fun _ _ _ h => h) (yl_mid rfl 39 _ rfl (b := P) (off := 0) rfl p2.cells (by kernel_rfl) (by rw [hpl2.out]; exact size_pkt) (fun w hw => at_blk hw 1 rfl)) ?_
                  simp only [Act.put, Act.eval, List.setIfInBounds_toArray, List.set_cons_zero, List.set_cons_succ, Array.getD_eq_getD_getElem?, List.getElem?_toArray, List.getElem?_cons_zero, List.getElem?_cons_succ, Option.getD_some]
                  refine wpM_free hOps (v := ?vOp191) rfl (fun _ _ _ h => h) (yl rfl ?yOp191) ?_
                  case yOp191 => (intro w hw; go_simp; first | done | rfl)
                  simp only [Act.put, Act.eval, List.setIfInBounds_toArray, List.set_cons_zero, List.set_cons_succ, Array.getD_eq_getD_getElem?, List.getElem?_toArray, List.getElem?_cons_zero, List.getElem?_cons_succ, Option.getD_some]
                  refine wpM_free hOps (v := ?vOp193) rfl (fun _ _ _ h => h) (yl rfl ?yOp193) ?_
                  case yOp193 => (intro w hw; go_simp; first | done | rfl)
                  simp only [Act.put, Act.eval, List.setIfInBounds_toArray, List.set_cons_zero, List.set_cons_succ, Array.getD_eq_getD_getElem?, List.getElem?_toArray, List.getElem?_cons_zero, List.getElem?_cons_succ, Option.getD_some]
                  refine wpM_take hOps hS rfl (fun _ _ _ h => h) (yl rfl (fun w hw => exec_str_of (bs := p2.mac) rfl under_bytesT under_u8T under_strT rfl hw (see_part 1 rfl PO2.out.mac.symm (Nat.le_refl _) h32.out))) ?_
                  simp only [Act.put, Act.eval, List.setIfInBounds_toArray, List.set_cons_zero, List.set_cons_succ, Array.getD_eq_getD_getElem?, List.getElem?_toArray, List.getElem?_cons_zero, List.getElem?_cons_succ, Option.getD_some]
                  refine wpM_next hOps rfl rfl ?_
                  intro K hK
                  refine wp_call _ _ _ rfl Tryd.func13 rfl (by kernel_rfl) ?_
                  simp only [List.map_toArray, List.map_cons, List.map_nil, Act.eval, Array.getD_eq_getD_getElem?, List.getElem?_toArray, List.getElem?_cons_zero, List.getElem?_cons_succ, Option.getD_some]
                  refine (ROf_c H PO2.out).mono ?_; rintro e' w' ⟨rfl, H⟩
                  have hS := (H)
                  refine hK _ _ (.inr hS) ?_
                  clear hK K
                  simp only [Act.put, Act.eval, List.setIfInBounds_toArray, List.set_cons_zero, List.set_cons_succ, Array.getD_eq_getD_getElem?, List.getElem?_toArray, List.getElem?_cons_zero, List.getElem?_cons_succ, Option.getD_some]
                  refine wpM_next hOps rfl rfl ?_
                  intro K hK
                  refine wp_call _ _ _ rfl Tryd.func12 rfl (by kernel_rfl) ?_
                  simp only [List.map_toArray, List.map_cons, List.map_nil, Act.eval, Array.getD_eq_getD_getElem?, List.getElem?_toArray, List.getElem?_cons_zero, List.getElem?_cons_succ, Option.getD_some]
                  refine (RMAC11_c H (by rw [hkl.out]; omega) PO2.out).mono ?_; rintro e' w' ⟨rfl, H⟩
                  rw [← HT.out]
                  have hS := (H)
                  refine hK _ _ (.inr hS) ?_
                  clear hK K
                  simp only [Act.put, Act.eval, List.setIfInBounds_toArray, List.set_cons_zero, List.set_cons_succ, Array.getD_eq_getD_getElem?, List.getElem?_toArray, List.getElem?_cons_zero, List.getElem?_cons_succ, Option.getD_some]
                  refine wpM_free hOps rfl (fun _ _ _ h => h) (yl rfl (fun w _ => exec_seql (u := T) (v := p2.mac) rfl rfl rfl w)) ?_
                  simp only [Act.put, Act.eval, List.setIfInBounds_toArray, List.set_cons_zero, List.set_cons_succ, Array.getD_eq_getD_getElem?, List.getElem?_toArray, List.getElem?_cons_zero, List.getElem?_cons_succ, Option.getD_some]
                  refine wpM_free hOps rfl (fun _ _ _ h => h) (yl (v := .bool false) rfl (fun w _ => by go_simp; exact hiff.out)) ?_
                  simp only [Act.put, Act.eval, List.setIfInBounds_toArray, List.set_cons_zero, List.set_cons_succ, Array.getD_eq_getD_getElem?, List.getElem?_toArray, List.getElem?_cons_zero, List.getElem?_cons_succ, Option.getD_some]
                  refine wpM_end ?_
                  clear hOps hS ops
                  go_wp2_with fail
                  first
                    | (refine ⟨?_, ?measure⟩; iterate 60 (try apply Exists.intro); refine ⟨?rel, rfl⟩)
                    | refine ⟨?rel, ?measure⟩
                  case rel => exact ⟨2, by omega, by go_num, H.tail⟩
                  case measure => simp [intOf]
              · go_wp2_with fail
                exact ⟨rfl, _, results_tmp rfl _ _ _, rfl, H.maskR [false, false, false]⟩
        · by_cases h352 : m2 < 352
          · as_aux_lemma =>
              have k16 : ¬ (m2 : Int) < 16 := by omega
              have k32 : ¬ (m2 : Int) < 32 := by omega
              have k352 : (m2 : Int) < 352 := by omega
              obtain ⟨d, hd⟩ : ∃ d, d + 32 = m2 := ⟨m2 - 32, by omega⟩
              have hkk := Lib.hid (show 32 + d < 608 by have := hm608.out; omega)
              obtain ⟨b, hb, hset⟩ := pkt_byte PO.out hkk.out
              obtain ⟨p2, po2, hs2⟩ := hset (b ^^^ y)
              have hcell := Lib.hid (show p.cells[34 + d]? = some (.int .u8 (iv b)) by rw [show 34 + d = 2 + (32 + d) by omega]; exact hb)
              have hs3 := Lib.hid (show p.cells.toArray.setIfInBounds (34 + d) (.int .u8 (iv (b ^^^ y))) = p2.cells.toArray by rw [show 34 + d = 2 + (32 + d) by omega]; exact hs2)
              have PO2 := Lib.hid po2
              have hpl2 := Lib.hid (PktD.cells_length po2)
              have h32 := Lib.hid (PktD.part_mac po2)
              have e1 : bits .xor .u8 (iv b) (iv y) = iv (b ^^^ y) := iv_xor8 b y
              have s32 : (m2 : Int) - 32 = (d : Int) := by omega
              have t32 : IntKind.i64.wrap (d : Int) = (d : Int) := by rw [IntKind.wrap_i64]; have := hm608.out; omega
              have u32 : (d : Int) < 608 := by have := hm608.out; omega
              have d320 : (d : Int) < 320 := by omega
              clear hb hset hs2 po2
              go_wp2_with ((with_reducible refine wpList_op rfl ?_); intro _ hK; first
                | (refine dst_is 89 rfl ?_; refine wp_get 5 _ rfl rfl (by kernel_rfl) (v := .int .u8 (iv b)) (at_raw H 0 rfl hcell.out) (hK _ _ ?_))
                | (refine sto_is 93 rfl ?_; refine wp_store_sl 5 _ _ rfl (b := P) (off := 34 + d) (v := .int .u8 (iv (b ^^^ y))) rfl rfl (by kernel_rfl) rfl 0 H rfl (by rw [List.size_toArray, hpl.out]; have := hm608.out; omega) (fun w' H => ?_); rw [hs3.out] at H; replace H : At w0 (raw P p2.cells.toArray 39 :: raw KB (v8 key).toArray 29 :: raw B (v8 body).toArray 24 :: F) w' := H; refine hK _ _ (Stop.go ?_)))
              refine Stop.un ?_
              go_wp2_with fail
              go_loopw [14] (fun i wr => ∃ c : Nat, c ≤ 2 ∧ i = .int .i64 (c : Int) ∧ At w0 (raw P p2.cells.toArray 39 :: raw KB (v8 key).toArray 29 :: raw B (v8 body).toArray 24 :: F) wr) (fun i _ => 2 - (intOf i).toNat)
              case atStart => exact ⟨0, by omega, rfl, H⟩
              case round =>
                clear H
                obtain ⟨c, hc, rfl, H⟩ := hrel
                rcases (show c = 0 ∨ c = 1 ∨ c = 2 by omega) with rfl | rfl | rfl
                · as_aux_lemma =>
                    go_wp2_with ((with_reducible refine wpList_op rfl ?_); intro _ hK; first
                      | (refine dst_is 98 rfl ?_; refine wp_lda 29 _ rfl (b := KB) (bs := key) rfl (by kernel_rfl) (by rw [HK.out]; exact size_key) 1 H rfl (hK _ _ ?_))
                      | (refine dst_is 15 rfl ?_; refine wp_alloc_sl 29 rfl info_key H (fun C w' (H : At w0 (raw C (v8 (zs 32)).toArray 29 :: raw P p2.cells.toArray 39 :: raw KB (v8 key).toArray 29 :: raw B (v8 body).toArray 24 :: F) w') _ => hK _ _ ?_))
                      | (refine sto_is 15 rfl ?_; refine wp_sta 29 _ _ rfl (b := C) (bs := zs 32) (cs := key) rfl rfl (by rw [HK.out]; exact size_key) 0 H rfl (by rw [HK.out, zs_length]) (fun w' (H : At w0 (raw C (v8 key).toArray 29 :: raw P p2.cells.toArray 39 :: raw KB (v8 key).toArray 29 :: raw B (v8 body).toArray 24 :: F) w') => hK _ _ (Stop.go ?_))))
                    refine Stop.un ?_
                    obtain ⟨s, r, e, hpe⟩ := trip (peelOf key p2)
                    have sr := peel_ok PO2.out hpe
                    have hsl := Lib.hid (SlotD.cells_length sr.1.nonce sr.1.mac)
                    have hrl := Lib.hid (PktD.cells_length sr.2)
                    obtain ⟨E, hE⟩ : ∃ E : Int, (e : Int) = E := ⟨_, rfl⟩
                    obtain ⟨T, hT⟩ : ∃ T, T = macOf key p2 := ⟨_, rfl⟩
                    have HPE := Lib.hid hpe
                    have HE := Lib.hid hE
                    have HT := Lib.hid hT
                    have hiff := Lib.hid (show ¬ (E = 4 ↔ T = p2.mac) by
                      by_cases hm : T = p2.mac
                      · have h2 : e ≠ 4 := by
                          have := @peel_e4 key p2 (by rw [← hT]; exact hm)
                          rw [hpe] at this
                          exact this
                        exact fun h => h2 (by have := h.2 hm; omega)
                      · have h2 := @peel_no key p2 (by rw [← hT]; exact hm)
                        rw [hpe] at h2
                        have h3 : e = 4 := congrArg (fun x => x.2.2) h2
                        exact fun h => hm (h.1 (by omega)))
                    clear hpe sr hE hT
                    go_wp2_with ((with_reducible refine wpList_op rfl ?_); intro _ hK; first
                      | (refine dst_is 106 rfl ?_; refine wp_lda 29 _ rfl (b := C) (bs := key) rfl (by kernel_rfl) (by rw [HK.out]; exact size_key) 0 H rfl (hK _ _ ?_))
                      | (refine dst_is 107 rfl ?_; refine wp_mid 39 _ rfl (b := P) (off := 0) rfl p2.cells (by kernel_rfl) (by rw [hpl2.out]; exact size_pkt) (at_blk H 1 rfl) (hK _ _ ?_)))
                    refine (peel_is G H HK.out PO2.out HPE.out HE.out).mono ?_; rintro e' w' ⟨rfl, H⟩
                    go_wp2_with ((with_reducible refine wpList_op rfl ?_); intro _ hK; first
                      | (refine dst_is 16 rfl ?_; refine wp_alloc_sl 45 rfl info_slot H (fun S w' (H : At w0 (raw S SlotD.zero.cells.toArray 45 :: raw C (v8 key).toArray 29 :: raw P p2.cells.toArray 39 :: raw KB (v8 key).toArray 29 :: raw B (v8 body).toArray 24 :: F) w') _ => hK _ _ ?_))
                      | (refine dst_is 17 rfl ?_; refine wp_alloc_sl 39 rfl info_pkt H (fun Q w' (H : At w0 (raw Q PktD.zero.cells.toArray 39 :: raw S SlotD.zero.cells.toArray 45 :: raw C (v8 key).toArray 29 :: raw P p2.cells.toArray 39 :: raw KB (v8 key).toArray 29 :: raw B (v8 body).toArray 24 :: F) w') _ => hK _ _ ?_))
                      | (refine sto_is 16 rfl ?_; refine wp_store_row_sl 45 _ _ rfl (b := S) (cells := s.cells.toArray) rfl rfl (by rw [List.size_toArray, hsl.out]; exact size_slot) (by simpa using SlotD.cells_one) 1 H rfl (by rw [List.size_toArray, List.size_toArray, hsl.out]; rfl) (fun w' H => ?_); replace H : At w0 (raw Q PktD.zero.cells.toArray 39 :: raw C (v8 key).toArray 29 :: raw P p2.cells.toArray 39 :: raw KB (v8 key).toArray 29 :: raw B (v8 body).toArray 24 :: F) w' := H.maskR [true, false]; refine hK _ _ ?_)
                      | (refine sto_is 17 rfl ?_; refine wp_store_row_sl 39 _ _ rfl (b := Q) (cells := r.cells.toArray) rfl rfl (by rw [List.size_toArray, hrl.out]; exact size_pkt) (by simpa using PktD.cells_one) 0 H rfl (by rw [List.size_toArray, List.size_toArray, hrl.out]; rfl) (fun w' H => ?_); replace H : At w0 (raw C (v8 key).toArray 29 :: raw P p2.cells.toArray 39 :: raw KB (v8 key).toArray 29 :: raw B (v8 body).toArray 24 :: F) w' := H.maskR [false]; refine hK _ _ (Stop.go ?_)))
                    refine Stop.un ?_
                    go_wp2_with fail
                    refine wpM_begin [] ((At w0 (raw C (v8 key).toArray 29 :: raw P p2.cells.toArray 39 :: raw KB (v8 key).toArray 29 :: raw B (v8 body).toArray 24 :: F))) [(0, 2), (1, 2), (2, 2), (3, 1), (4, 1), (7, 2), (8, 2), (9, 1), (5, 0), (6, 0), (10, 2), (11, 2)] rfl (by kernel_rfl) (by kernel_rfl) ((H.drew)) ?_
                    intro ops hOps hS
                    replace H := H.drew
                    refine wpM_free hOps rfl (fun _ _ _ h => h) (yl_move rfl _ rfl) ?_
                    simp only [Act.put, Act.eval, List.setIfInBounds_toArray, List.set_cons_zero, List.set_cons_succ, Array.getD_eq_getD_getElem?, List.getElem?_toArray, List.getElem?_cons_zero, List.getElem?_cons_succ, Option.getD_some]
                    refine wpM_free hOps rfl (fun _ _ _ h => h) (yl (v := .bool (decide (E = 4))) rfl (fun w _ => by go_simp; first | done | rfl | simp)) ?_
                    simp only [Act.put, Act.eval, List.setIfInBounds_toArray, List.set_cons_zero, List.set_cons_succ, Array.getD_eq_getD_getElem?, List.getElem?_toArray, List.getElem?_cons_zero, List.getElem?_cons_succ, Option.getD_some]
                    refine wpM_free hOps (v := ?vOp212) rfl (fun _ _ _ h => h) (yl rfl ?yOp212) ?_
                    case yOp212 => (intro w hw; go_simp; first | done | rfl)
                    simp only [Act.put, Act.eval, List.setIfInBounds_toArray, List.set_cons_zero, List.set_cons_succ, Array.getD_eq_getD_getElem?, List.getElem?_toArray, List.getElem?_cons_zero, List.getElem?_cons_succ, Option.getD_some]
                    refine wpM_take hOps hS rfl (fun _ _ _ h => h) (yl rfl (fun w hw => exec_str_of (bs := key) rfl under_bytesT under_u8T under_strT rfl hw (see_blk 0 rfl HK.out.symm))) ?_
                    simp only [Act.put, Act.eval, List.setIfInBounds_toArray, List.set_cons_zero, List.set_cons_succ, Array.getD_eq_getD_getElem?, List.getElem?_toArray, List.getElem?_cons_zero, List.getElem?_cons_succ, Option.getD_some]
                    refine wpM_take hOps hS rfl (fun _ _ _ h => h) (yl_mid rfl 39 _ rfl (b := P) (off := 0) rfl p2.cells (by kernel_rfl) (by rw [hpl2.out]; exact size_pkt) (fun w hw => at_blk hw 1 rfl)) ?_
                    simp only [Act.put, Act.eval, List.setIfInBounds_toArray, List.set_cons_zero, List.set_cons_succ, Array.getD_eq_getD_getElem?, List.getElem?_toArray, List.getElem?_cons_zero, List.getElem?_cons_succ, Option.getD_some]
                    refine wpM_free hOps (v := ?vOp218) rfl (fun _ _ _ h => h) (yl rfl ?yOp218) ?_
                    case yOp218 => (intro w hw; go_simp; first | done | rfl)
                    simp only [Act.put, Act.eval, List.setIfInBounds_toArray, List.set_cons_zero, List.set_cons_succ, Array.getD_eq_getD_getElem?, List.getElem?_toArray, List.getElem?_cons_zero, List.getElem?_cons_succ, Option.getD_some]
                    refine wpM_free hOps (v := ?vOp220) rfl (fun _ _ _ h => h) (yl rfl ?yOp220) ?_
                    case yOp220 => (intro w hw; go_simp; first | done | rfl)
                    simp only [Act.put, Act.eval, List.setIfInBounds_toArray, List.set_cons_zero, List.set_cons_succ, Array.getD_eq_getD_getElem?, List.getElem?_toArray, List.getElem?_cons_zero, List.getElem?_cons_succ, Option.getD_some]
                    refine wpM_take hOps hS rfl (fun _ _ _ h => h) (yl rfl (fun w hw => exec_str_of (bs := p2.mac) rfl under_bytesT under_u8T under_strT rfl hw (see_part 1 rfl PO2.out.mac.symm (Nat.le_refl _) h32.out))) ?_
                    simp only [Act.put, Act.eval, List.setIfInBounds_toArray, List.set_cons_zero, List.set_cons_succ, Array.getD_eq_getD_getElem?, List.getElem?_toArray, List.getElem?_cons_zero, List.getElem?_cons_succ, Option.getD_some]
                    refine wpM_next hOps rfl rfl ?_
                    intro K hK
                    refine wp_call _ _ _ rfl Tryd.func13 rfl (by kernel_rfl) ?_
                    simp only [List.map_toArray, List.map_cons, List.map_nil, Act.eval, Array.getD_eq_getD_getElem?, List.getElem?_toArray, List.getElem?_cons_zero, List.getElem?_cons_succ, Option.getD_some]
                    refine (ROf_c H PO2.out).mono ?_; rintro e' w' ⟨rfl, H⟩
                    have hS := (H)
                    refine hK _ _ (.inr hS) ?_
                    clear hK K
                    simp only [Act.put, Act.eval, List.setIfInBounds_toArray, List.set_cons_zero, List.set_cons_succ, Array.getD_eq_getD_getElem?, List.getElem?_toArray, List.getElem?_cons_zero, List.getElem?_cons_succ, Option.getD_some]
                    refine wpM_next hOps rfl rfl ?_
                    intro K hK
                    refine wp_call _ _ _ rfl Tryd.func12 rfl (by kernel_rfl) ?_
                    simp only [List.map_toArray, List.map_cons, List.map_nil, Act.eval, Array.getD_eq_getD_getElem?, List.getElem?_toArray, List.getElem?_cons_zero, List.getElem?_cons_succ, Option.getD_some]
                    refine (RMAC11_c H (by rw [HK.out]; omega) PO2.out).mono ?_; rintro e' w' ⟨rfl, H⟩
                    rw [← HT.out]
                    have hS := (H)
                    refine hK _ _ (.inr hS) ?_
                    clear hK K
                    simp only [Act.put, Act.eval, List.setIfInBounds_toArray, List.set_cons_zero, List.set_cons_succ, Array.getD_eq_getD_getElem?, List.getElem?_toArray, List.getElem?_cons_zero, List.getElem?_cons_succ, Option.getD_some]
                    refine wpM_free hOps rfl (fun _ _ _ h => h) (yl rfl (fun w _ => exec_seql (u := T) (v := p2.mac) rfl rfl rfl w)) ?_
                    simp only [Act.put, Act.eval, List.setIfInBounds_toArray, List.set_cons_zero, List.set_cons_succ, Array.getD_eq_getD_getElem?, List.getElem?_toArray, List.getElem?_cons_zero, List.getElem?_cons_succ, Option.getD_some]
                    refine wpM_free hOps rfl (fun _ _ _ h => h) (yl (v := .bool false) rfl (fun w _ => by go_simp; exact hiff.out)) ?_
                    simp only [Act.put, Act.eval, List.setIfInBounds_toArray, List.set_cons_zero, List.set_cons_succ, Array.getD_eq_getD_getElem?, List.getElem?_toArray, List.getElem?_cons_zero, List.getElem?_cons_succ, Option.getD_some]
                    refine wpM_end ?_
                    clear hOps hS ops
                    go_wp2_with fail
                    first
                      | (refine ⟨?_, ?measure⟩; iterate 60 (try apply Exists.intro); refine ⟨?rel, rfl⟩)
                      | refine ⟨?rel, ?measure⟩
                    case rel => exact ⟨1, by omega, by go_num, H.tail⟩
                    case measure => simp [intOf]
                · as_aux_lemma =>
                    obtain ⟨h, hx⟩ : ∃ h, hops[0]? = some h := ⟨_, List.getElem?_eq_getElem (by rw [← HN.out]; exact hn1.out)⟩
                    obtain ⟨g, off, rfl⟩ := HS.out hn1.out
                    have HH := Lib.hid hx
                    have hkl := Lib.hid h.2.key
                    have f4 := Lib.hid (show (h.1.cells.drop 2).take (v8 h.1.key).length = v8 h.1.key by rw [v8_length, h.2.key]; exact HopD.part_key h.2.key)
                    have hn0 : (0 : Int) < (n : Int) := by have := hn1.out; omega
                    clear hx
                    go_wp2_with ((with_reducible refine wpList_op rfl ?_); intro _ hK; first
                      | (refine dst_is 98 rfl ?_; refine wp_lda 29 _ rfl (b := KB) (bs := key) rfl (by kernel_rfl) (by rw [HK.out]; exact size_key) 1 H rfl (hK _ _ ?_))
                      | (refine dst_is 15 rfl ?_; refine wp_alloc_sl 29 rfl info_key H (fun C w' (H : At w0 (raw C (v8 (zs 32)).toArray 29 :: raw P p2.cells.toArray 39 :: raw KB (v8 key).toArray 29 :: raw B (v8 body).toArray 24 :: F) w') _ => hK _ _ ?_))
                      | (refine sto_is 15 rfl ?_; refine wp_sta 29 _ _ rfl (b := C) (bs := zs 32) (cs := key) rfl rfl (by rw [HK.out]; exact size_key) 0 H rfl (by rw [HK.out, zs_length]) (fun w' (H : At w0 (raw C (v8 key).toArray 29 :: raw P p2.cells.toArray 39 :: raw KB (v8 key).toArray 29 :: raw B (v8 body).toArray 24 :: F) w') => hK _ _ (Stop.go ?_))))
                    refine Stop.un ?_
                    go_wp2_with ((with_reducible refine wpList_op rfl ?_); intro _ hK; first
                      | (refine dst_is 104 rfl ?_; refine wp_mid 29 _ rfl rfl (v8 h.1.key) (by kernel_rfl) (by rw [v8_length, hkl.out]; exact size_key) (by have := range_in ((((((HV.out.more _).more _).more _).more _)).elem el_hop H HH.out) f4.out; simpa using this) (hK _ _ ?_))
                      | (refine sto_is 15 rfl ?_; refine wp_sta 29 _ _ rfl (b := C) (bs := key) (cs := h.1.key) rfl rfl (by rw [hkl.out]; exact size_key) 0 H rfl (by rw [HK.out, hkl.out]) (fun w' (H : At w0 (raw C (v8 h.1.key).toArray 29 :: raw P p2.cells.toArray 39 :: raw KB (v8 key).toArray 29 :: raw B (v8 body).toArray 24 :: F) w') => hK _ _ (Stop.go ?_))))
                    refine Stop.un ?_
                    obtain ⟨s, r, e, hpe⟩ := trip (peelOf h.1.key p2)
                    have sr := peel_ok PO2.out hpe
                    have hsl := Lib.hid (SlotD.cells_length sr.1.nonce sr.1.mac)
                    have hrl := Lib.hid (PktD.cells_length sr.2)
                    obtain ⟨E, hE⟩ : ∃ E : Int, (e : Int) = E := ⟨_, rfl⟩
                    obtain ⟨T, hT⟩ : ∃ T, T = macOf h.1.key p2 := ⟨_, rfl⟩
                    have HPE := Lib.hid hpe
                    have HE := Lib.hid hE
                    have HT := Lib.hid hT
                    have hiff := Lib.hid (show ¬ (E = 4 ↔ T = p2.mac) by
                      by_cases hm : T = p2.mac
                      · have h2 : e ≠ 4 := by
                          have := @peel_e4 h.1.key p2 (by rw [← hT]; exact hm)
                          rw [hpe] at this
                          exact this
                        exact fun h => h2 (by have := h.2 hm; omega)
                      · have h2 := @peel_no h.1.key p2 (by rw [← hT]; exact hm)
                        rw [hpe] at h2
                        have h3 : e = 4 := congrArg (fun x => x.2.2) h2
                        exact fun h => hm (h.1 (by omega)))
                    clear hpe sr hE hT
                    go_wp2_with ((with_reducible refine wpList_op rfl ?_); intro _ hK; first
                      | (refine dst_is 106 rfl ?_; refine wp_lda 29 _ rfl (b := C) (bs := h.1.key) rfl (by kernel_rfl) (by rw [hkl.out]; exact size_key) 0 H rfl (hK _ _ ?_))
                      | (refine dst_is 107 rfl ?_; refine wp_mid 39 _ rfl (b := P) (off := 0) rfl p2.cells (by kernel_rfl) (by rw [hpl2.out]; exact size_pkt) (at_blk H 1 rfl) (hK _ _ ?_)))
                    refine (peel_is G H hkl.out PO2.out HPE.out HE.out).mono ?_; rintro e' w' ⟨rfl, H⟩
                    go_wp2_with ((with_reducible refine wpList_op rfl ?_); intro _ hK; first
                      | (refine dst_is 16 rfl ?_; refine wp_alloc_sl 45 rfl info_slot H (fun S w' (H : At w0 (raw S SlotD.zero.cells.toArray 45 :: raw C (v8 h.1.key).toArray 29 :: raw P p2.cells.toArray 39 :: raw KB (v8 key).toArray 29 :: raw B (v8 body).toArray 24 :: F) w') _ => hK _ _ ?_))
                      | (refine dst_is 17 rfl ?_; refine wp_alloc_sl 39 rfl info_pkt H (fun Q w' (H : At w0 (raw Q PktD.zero.cells.toArray 39 :: raw S SlotD.zero.cells.toArray 45 :: raw C (v8 h.1.key).toArray 29 :: raw P p2.cells.toArray 39 :: raw KB (v8 key).toArray 29 :: raw B (v8 body).toArray 24 :: F) w') _ => hK _ _ ?_))
                      | (refine sto_is 16 rfl ?_; refine wp_store_row_sl 45 _ _ rfl (b := S) (cells := s.cells.toArray) rfl rfl (by rw [List.size_toArray, hsl.out]; exact size_slot) (by simpa using SlotD.cells_one) 1 H rfl (by rw [List.size_toArray, List.size_toArray, hsl.out]; rfl) (fun w' H => ?_); replace H : At w0 (raw Q PktD.zero.cells.toArray 39 :: raw C (v8 h.1.key).toArray 29 :: raw P p2.cells.toArray 39 :: raw KB (v8 key).toArray 29 :: raw B (v8 body).toArray 24 :: F) w' := H.maskR [true, false]; refine hK _ _ ?_)
                      | (refine sto_is 17 rfl ?_; refine wp_store_row_sl 39 _ _ rfl (b := Q) (cells := r.cells.toArray) rfl rfl (by rw [List.size_toArray, hrl.out]; exact size_pkt) (by simpa using PktD.cells_one) 0 H rfl (by rw [List.size_toArray, List.size_toArray, hrl.out]; rfl) (fun w' H => ?_); replace H : At w0 (raw C (v8 h.1.key).toArray 29 :: raw P p2.cells.toArray 39 :: raw KB (v8 key).toArray 29 :: raw B (v8 body).toArray 24 :: F) w' := H.maskR [false]; refine hK _ _ (Stop.go ?_)))
                    refine Stop.un ?_
                    go_wp2_with fail
                    refine wpM_begin [] ((At w0 (raw C (v8 h.1.key).toArray 29 :: raw P p2.cells.toArray 39 :: raw KB (v8 key).toArray 29 :: raw B (v8 body).toArray 24 :: F))) [(0, 2), (1, 2), (2, 2), (3, 1), (4, 1), (7, 2), (8, 2), (9, 1), (5, 0), (6, 0), (10, 2), (11, 2)] rfl (by kernel_rfl) (by kernel_rfl) ((H.drew)) ?_
                    intro ops hOps hS
                    replace H := H.drew
                    refine wpM_free hOps rfl (fun _ _ _ h => h) (yl_move rfl _ rfl) ?_
                    simp only [Act.put, Act.eval, List.setIfInBounds_toArray, List.set_cons_zero, List.set_cons_succ, Array.getD_eq_getD_getElem?, List.getElem?_toArray, List.getElem?_cons_zero, List.getElem?_cons_succ, Option.getD_some]
                    refine wpM_free hOps rfl (fun _ _ _ h => h) (yl (v := .bool (decide (E = 4))) rfl (fun w _ => by go_simp; first | done | rfl | simp)) ?_
                    simp only [Act.put, Act.eval, List.setIfInBounds_toArray, List.set_cons_zero, List.set_cons_succ, Array.getD_eq_getD_getElem?, List.getElem?_toArray, List.getElem?_cons_zero, List.getElem?_cons_succ, Option.getD_some]
                    refine wpM_free hOps (v := ?vOp239) rfl (fun _ _ _ h => h) (yl rfl ?yOp239) ?_
                    case yOp239 => (intro w hw; go_simp; first | done | rfl)
                    simp only [Act.put, Act.eval, List.setIfInBounds_toArray, List.set_cons_zero, List.set_cons_succ, Array.getD_eq_getD_getElem?, List.getElem?_toArray, List.getElem?_cons_zero, List.getElem?_cons_succ, Option.getD_some]
                    refine wpM_take hOps hS rfl (fun _ _ _ h => h) (yl rfl (fun w hw => exec_str_of (bs := h.1.key) rfl under_bytesT under_u8T under_strT rfl hw (see_blk 0 rfl hkl.out.symm))) ?_
                    simp only [Act.put, Act.eval, List.setIfInBounds_toArray, List.set_cons_zero, List.set_cons_succ, Array.getD_eq_getD_getElem?, List.getElem?_toArray, List.getElem?_cons_zero, List.getElem?_cons_succ, Option.getD_some]
                    refine wpM_take hOps hS rfl (fun _ _ _ h => h) (yl_mid rfl 39 _ rfl (b := P) (off := 0) rfl p2.cells (by kernel_rfl) (by rw [hpl2.out]; exact size_pkt) (fun w hw => at_blk hw 1 rfl)) ?_
                    simp only [Act.put, Act.eval, List.setIfInBounds_toArray, List.set_cons_zero, List.set_cons_succ, Array.getD_eq_getD_getElem?, List.getElem?_toArray, List.getElem?_cons_zero, List.getElem?_cons_succ, Option.getD_some]
                    refine wpM_free hOps (v := ?vOp245) rfl (fun _ _ _ h => h) (yl rfl ?yOp245) ?_
                    case yOp245 => (intro w hw; go_simp; first | done | rfl)
                    simp only [Act.put, Act.eval, List.setIfInBounds_toArray, List.set_cons_zero, List.set_cons_succ, Array.getD_eq_getD_getElem?, List.getElem?_toArray, List.getElem?_cons_zero, List.getElem?_cons_succ, Option.getD_some]
                    refine wpM_free hOps (v := ?vOp247) rfl (fun _ _ _ h => h) (yl rfl ?yOp247) ?_
                    case yOp247 => (intro w hw; go_simp; first | done | rfl)
                    simp only [Act.put, Act.eval, List.setIfInBounds_toArray, List.set_cons_zero, List.set_cons_succ, Array.getD_eq_getD_getElem?, List.getElem?_toArray, List.getElem?_cons_zero, List.getElem?_cons_succ, Option.getD_some]
                    refine wpM_take hOps hS rfl (fun _ _ _ h => h) (yl rfl (fun w hw => exec_str_of (bs := p2.mac) rfl under_bytesT under_u8T under_strT rfl hw (see_part 1 rfl PO2.out.mac.symm (Nat.le_refl _) h32.out))) ?_
                    simp only [Act.put, Act.eval, List.setIfInBounds_toArray, List.set_cons_zero, List.set_cons_succ, Array.getD_eq_getD_getElem?, List.getElem?_toArray, List.getElem?_cons_zero, List.getElem?_cons_succ, Option.getD_some]
                    refine wpM_next hOps rfl rfl ?_
                    intro K hK
                    refine wp_call _ _ _ rfl Tryd.func13 rfl (by kernel_rfl) ?_
                    simp only [List.map_toArray, List.map_cons, List.map_nil, Act.eval, Array.getD_eq_getD_getElem?, List.getElem?_toArray, List.getElem?_cons_zero, List.getElem?_cons_succ, Option.getD_some]
                    refine (ROf_c H PO2.out).mono ?_; rintro e' w' ⟨rfl, H⟩
                    have hS := (H)
                    refine hK _ _ (.inr hS) ?_
                    clear hK K
                    simp only [Act.put, Act.eval, List.setIfInBounds_toArray, List.set_cons_zero, List.set_cons_succ, Array.getD_eq_getD_getElem?, List.getElem?_toArray, List.getElem?_cons_zero, List.getElem?_cons_succ, Option.getD_some]
                    refine wpM_next hOps rfl rfl ?_
                    intro K hK
                    refine wp_call _ _ _ rfl Tryd.func12 rfl (by kernel_rfl) ?_
                    simp only [List.map_toArray, List.map_cons, List.map_nil, Act.eval, Array.getD_eq_getD_getElem?, List.getElem?_toArray, List.getElem?_cons_zero, List.getElem?_cons_succ, Option.getD_some]
                    refine (RMAC11_c H (by rw [hkl.out]; omega) PO2.out).mono ?_; rintro e' w' ⟨rfl, H⟩
                    rw [← HT.out]
                    have hS := (H)
                    refine hK _ _ (.inr hS) ?_
                    clear hK K
                    simp only [Act.put, Act.eval, List.setIfInBounds_toArray, List.set_cons_zero, List.set_cons_succ, Array.getD_eq_getD_getElem?, List.getElem?_toArray, List.getElem?_cons_zero, List.getElem?_cons_succ, Option.getD_some]
                    refine wpM_free hOps rfl (fun _ _ _ h => h) (yl rfl (fun w _ => exec_seql (u := T) (v := p2.mac) rfl rfl rfl w)) ?_
                    simp only [Act.put, Act.eval, List.setIfInBounds_toArray, List.set_cons_zero, List.set_cons_succ, Array.getD_eq_getD_getElem?, List.getElem?_toArray, List.getElem?_cons_zero, List.getElem?_cons_succ, Option.getD_some]
                    refine wpM_free hOps rfl (fun _ _ _ h => h) (yl (v := .bool false) rfl (fun w _ => by go_simp; exact hiff.out)) ?_
                    simp only [Act.put, Act.eval, List.setIfInBounds_toArray, List.set_cons_zero, List.set_cons_succ, Array.getD_eq_getD_getElem?, List.getElem?_toArray, List.getElem?_cons_zero, List.getElem?_cons_succ, Option.getD_some]
                    refine wpM_end ?_
                    clear hOps hS ops
                    go_wp2_with fail
                    first
                      | (refine ⟨?_, ?measure⟩; iterate 60 (try apply Exists.intro); refine ⟨?rel, rfl⟩)
                      | refine ⟨?rel, ?measure⟩
                    case rel => exact ⟨2, by omega, by go_num, H.tail⟩
                    case measure => simp [intOf]
                · go_wp2_with fail
                  exact ⟨rfl, _, results_tmp rfl _ _ _, rfl, H.maskR [false, false, false]⟩
          · as_aux_lemma =>
              have k16 : ¬ (m2 : Int) < 16 := by omega
              have k32 : ¬ (m2 : Int) < 32 := by omega
              have k352 : ¬ (m2 : Int) < 352 := by omega
              obtain ⟨d0, hd0⟩ : ∃ d, d + 32 = m2 := ⟨m2 - 32, by omega⟩
              obtain ⟨d, hd⟩ : ∃ d, d + 320 = d0 := ⟨d0 - 320, by omega⟩
              have hkk := Lib.hid (show 352 + d < 608 by have := hm608.out; omega)
              obtain ⟨b, hb, hset⟩ := pkt_byte PO.out hkk.out
              obtain ⟨p2, po2, hs2⟩ := hset (b ^^^ y)
              have hcell := Lib.hid (show p.cells[354 + d]? = some (.int .u8 (iv b)) by rw [show 354 + d = 2 + (352 + d) by omega]; exact hb)
              have hs3 := Lib.hid (show p.cells.toArray.setIfInBounds (354 + d) (.int .u8 (iv (b ^^^ y))) = p2.cells.toArray by rw [show 354 + d = 2 + (352 + d) by omega]; exact hs2)
              have PO2 := Lib.hid po2
              have hpl2 := Lib.hid (PktD.cells_length po2)
              have h32 := Lib.hid (PktD.part_mac po2)
              have e1 : bits .xor .u8 (iv b) (iv y) = iv (b ^^^ y) := iv_xor8 b y
              have s32 : (m2 : Int) - 32 = (d0 : Int) := by omega
              have t32 : IntKind.i64.wrap (d0 : Int) = (d0 : Int) := by rw [IntKind.wrap_i64]; have := hm608.out; omega
              have u32 : (d0 : Int) < 608 := by have := hm608.out; omega
              have s320 : (d0 : Int) - 320 = (d : Int) := by omega
              have t320 : IntKind.i64.wrap (d : Int) = (d : Int) := by rw [IntKind.wrap_i64]; have := hm608.out; omega
              have d256 : (d : Int) < 256 := by have := hm608.out; omega
              clear hb hset hs2 po2
              go_wp2_with ((with_reducible refine wpList_op rfl ?_); intro _ hK; first
                | (refine dst_is 49 rfl ?_; refine wp_get 5 _ rfl rfl (by kernel_rfl) (v := .int .u8 (iv b)) (at_raw H 0 rfl hcell.out) (hK _ _ ?_))
                | (refine sto_is 53 rfl ?_; refine wp_store_sl 5 _ _ rfl (b := P) (off := 354 + d) (v := .int .u8 (iv (b ^^^ y))) rfl rfl (by kernel_rfl) rfl 0 H rfl (by rw [List.size_toArray, hpl.out]; have := hm608.out; omega) (fun w' H => ?_); rw [hs3.out] at H; replace H : At w0 (raw P p2.cells.toArray 39 :: raw KB (v8 key).toArray 29 :: raw B (v8 body).toArray 24 :: F) w' := H; refine hK _ _ (Stop.go ?_)))
              refine Stop.un ?_
              go_wp2_with fail
              go_loopw [14] (fun i wr => ∃ c : Nat, c ≤ 2 ∧ i = .int .i64 (c : Int) ∧ At w0 (raw P p2.cells.toArray 39 :: raw KB (v8 key).toArray 29 :: raw B (v8 body).toArray 24 :: F) wr) (fun i _ => 2 - (intOf i).toNat)
              case atStart => exact ⟨0, by omega, rfl, H⟩
              case round =>
                clear H
                obtain ⟨c, hc, rfl, H⟩ := hrel
                rcases (show c = 0 ∨ c = 1 ∨ c = 2 by omega) with rfl | rfl | rfl
                · as_aux_lemma =>
                    go_wp2_with ((with_reducible refine wpList_op rfl ?_); intro _ hK; first
                      | (refine dst_is 98 rfl ?_; refine wp_lda 29 _ rfl (b := KB) (bs := key) rfl (by kernel_rfl) (by rw [HK.out]; exact size_key) 1 H rfl (hK _ _ ?_))
                      | (refine dst_is 15 rfl ?_; refine wp_alloc_sl 29 rfl info_key H (fun C w' (H : At w0 (raw C (v8 (zs 32)).toArray 29 :: raw P p2.cells.toArray 39 :: raw KB (v8 key).toArray 29 :: raw B (v8 body).toArray 24 :: F) w') _ => hK _ _ ?_))
                      | (refine sto_is 15 rfl ?_; refine wp_sta 29 _ _ rfl (b := C) (bs := zs 32) (cs := key) rfl rfl (by rw [HK.out]; exact size_key) 0 H rfl (by rw [HK.out, zs_length]) (fun w' (H : At w0 (raw C (v8 key).toArray 29 :: raw P p2.cells.toArray 39 :: raw KB (v8 key).toArray 29 :: raw B (v8 body).toArray 24 :: F) w') => hK _ _ (Stop.go ?_))))
                    refine Stop.un ?_
                    obtain ⟨s, r, e, hpe⟩ := trip (peelOf key p2)
                    have sr := peel_ok PO2.out hpe
                    have hsl := Lib.hid (SlotD.cells_length sr.1.nonce sr.1.mac)
                    have hrl := Lib.hid (PktD.cells_length sr.2)
                    obtain ⟨E, hE⟩ : ∃ E : Int, (e : Int) = E := ⟨_, rfl⟩
                    obtain ⟨T, hT⟩ : ∃ T, T = macOf key p2 := ⟨_, rfl⟩
                    have HPE := Lib.hid hpe
                    have HE := Lib.hid hE
                    have HT := Lib.hid hT
                    have hiff := Lib.hid (show ¬ (E = 4 ↔ T = p2.mac) by
                      by_cases hm : T = p2.mac
                      · have h2 : e ≠ 4 := by
                          have := @peel_e4 key p2 (by rw [← hT]; exact hm)
                          rw [hpe] at this
                          exact this
                        exact fun h => h2 (by have := h.2 hm; omega)
                      · have h2 := @peel_no key p2 (by rw [← hT]; exact hm)
                        rw [hpe] at h2
                        have h3 : e = 4 := congrArg (fun x => x.2.2) h2
                        exact fun h => hm (h.1 (by omega)))
                    clear hpe sr hE hT
                    go_wp2_with ((with_reducible refine wpList_op rfl ?_); intro _ hK; first
                      | (refine dst_is 106 rfl ?_; refine wp_lda 29 _ rfl (b := C) (bs := key) rfl (by kernel_rfl) (by rw [HK.out]; exact size_key) 0 H rfl (hK _ _ ?_))
                      | (refine dst_is 107 rfl ?_; refine wp_mid 39 _ rfl (b := P) (off := 0) rfl p2.cells (by kernel_rfl) (by rw [hpl2.out]; exact size_pkt) (at_blk H 1 rfl) (hK _ _ ?_)))
                    refine (peel_is G H HK.out PO2.out HPE.out HE.out).mono ?_; rintro e' w' ⟨rfl, H⟩
                    go_wp2_with ((with_reducible refine wpList_op rfl ?_); intro _ hK; first
                      | (refine dst_is 16 rfl ?_; refine wp_alloc_sl 45 rfl info_slot H (fun S w' (H : At w0 (raw S SlotD.zero.cells.toArray 45 :: raw C (v8 key).toArray 29 :: raw P p2.cells.toArray 39 :: raw KB (v8 key).toArray 29 :: raw B (v8 body).toArray 24 :: F) w') _ => hK _ _ ?_))
                      | (refine dst_is 17 rfl ?_; refine wp_alloc_sl 39 rfl info_pkt H (fun Q w' (H : At w0 (raw Q PktD.zero.cells.toArray 39 :: raw S SlotD.zero.cells.toArray 45 :: raw C (v8 key).toArray 29 :: raw P p2.cells.toArray 39 :: raw KB (v8 key).toArray 29 :: raw B (v8 body).toArray 24 :: F) w') _ => hK _ _ ?_))
                      | (refine sto_is 16 rfl ?_; refine wp_store_row_sl 45 _ _ rfl (b := S) (cells := s.cells.toArray) rfl rfl (by rw [List.size_toArray, hsl.out]; exact size_slot) (by simpa using SlotD.cells_one) 1 H rfl (by rw [List.size_toArray, List.size_toArray, hsl.out]; rfl) (fun w' H => ?_); replace H : At w0 (raw Q PktD.zero.cells.toArray 39 :: raw C (v8 key).toArray 29 :: raw P p2.cells.toArray 39 :: raw KB (v8 key).toArray 29 :: raw B (v8 body).toArray 24 :: F) w' := H.maskR [true, false]; refine hK _ _ ?_)
                      | (refine sto_is 17 rfl ?_; refine wp_store_row_sl 39 _ _ rfl (b := Q) (cells := r.cells.toArray) rfl rfl (by rw [List.size_toArray, hrl.out]; exact size_pkt) (by simpa using PktD.cells_one) 0 H rfl (by rw [List.size_toArray, List.size_toArray, hrl.out]; rfl) (fun w' H => ?_); replace H : At w0 (raw C (v8 key).toArray 29 :: raw P p2.cells.toArray 39 :: raw KB (v8 key).toArray 29 :: raw B (v8 body).toArray 24 :: F) w' := H.maskR [false]; refine hK _ _ (Stop.go ?_)))
                    refine Stop.un ?_
                    go_wp2_with fail
                    refine wpM_begin [] ((At w0 (raw C (v8 key).toArray 29 :: raw P p2.cells.toArray 39 :: raw KB (v8 key).toArray 29 :: raw B (v8 body).toArray 24 :: F))) [(0, 2), (1, 2), (2, 2), (3, 1), (4, 1), (7, 2), (8, 2), (9, 1), (5, 0), (6, 0), (10, 2), (11, 2)] rfl (by kernel_rfl) (by kernel_rfl) ((H.drew)) ?_
                    intro ops hOps hS
                    replace H := H.drew
                    refine wpM_free hOps rfl (fun _ _ _ h => h) (yl_move rfl _ rfl) ?_
                    simp only [Act.put, Act.eval, List.setIfInBounds_toArray, List.set_cons_zero, List.set_cons_succ, Array.getD_eq_getD_getElem?, List.getElem?_toArray, List.getElem?_cons_zero, List.getElem?_cons_succ, Option.getD_some]
                    refine wpM_free hOps rfl (fun _ _ _ h => h) (yl (v := .bool (decide (E = 4))) rfl (fun w _ => by go_simp; first | done | rfl | simp)) ?_
                    simp only [Act.put, Act.eval, List.setIfInBounds_toArray, List.set_cons_zero, List.set_cons_succ, Array.getD_eq_getD_getElem?, List.getElem?_toArray, List.getElem?_cons_zero, List.getElem?_cons_succ, Option.getD_some]
                    refine wpM_free hOps (v := ?vOp266) rfl (fun _ _ _ h => h) (yl rfl ?yOp266) ?_
                    case yOp266 => (intro w hw; go_simp; first | done | rfl)
                    simp only [Act.put, Act.eval, List.setIfInBounds_toArray, List.set_cons_zero, List.set_cons_succ, Array.getD_eq_getD_getElem?, List.getElem?_toArray, List.getElem?_cons_zero, List.getElem?_cons_succ, Option.getD_some]
                    refine wpM_take hOps hS rfl (fun _ _ _ h => h) (yl rfl (fun w hw => exec_str_of (bs := key) rfl under_bytesT under_u8T under_strT rfl hw (see_blk 0 rfl HK.out.symm))) ?_
                    simp only [Act.put, Act.eval, List.setIfInBounds_toArray, List.set_cons_zero, List.set_cons_succ, Array.getD_eq_getD_getElem?, List.getElem?_toArray, List.getElem?_cons_zero, List.getElem?_cons_succ, Option.getD_some]
                    refine wpM_take hOps hS rfl (fun _ _ _ h => h) (yl_mid rfl 39 _ rfl (b := P) (off := 0) rfl p2.cells (by kernel_rfl) (by rw [hpl2.out]; exact size_pkt) (fun w hw => at_blk hw 1 rfl)) ?_
                    simp only [Act.put, Act.eval, List.setIfInBounds_toArray, List.set_cons_zero, List.set_cons_succ, Array.getD_eq_getD_getElem?, List.getElem?_toArray, List.getElem?_cons_zero, List.getElem?_cons_succ, Option.getD_some]
                    refine wpM_free hOps (v := ?vOp272) rfl (fun _ _ _ h => h) (yl rfl ?yOp272) ?_
                    case yOp272 => (intro w hw; go_simp; first | done | rfl)
                    simp only [Act.put, Act.eval, List.setIfInBounds_toArray, List.set_cons_zero, List.set_cons_succ, Array.getD_eq_getD_getElem?, List.getElem?_toArray, List.getElem?_cons_zero, List.getElem?_cons_succ, Option.getD_some]
                    refine wpM_free hOps (v := ?vOp274) rfl (fun _ _ _ h => h) (yl rfl ?yOp274) ?_
                    case yOp274 => (intro w hw; go_simp; first | done | rfl)
                    simp only [Act.put, Act.eval, List.setIfInBounds_toArray, List.set_cons_zero, List.set_cons_succ, Array.getD_eq_getD_getElem?, List.getElem?_toArray, List.getElem?_cons_zero, List.getElem?_cons_succ, Option.getD_some]
                    refine wpM_take hOps hS rfl (fun _ _ _ h => h) (yl rfl (fun w hw => exec_str_of (bs := p2.mac) rfl under_bytesT under_u8T under_strT rfl hw (see_part 1 rfl PO2.out.mac.symm (Nat.le_refl _) h32.out))) ?_
                    simp only [Act.put, Act.eval, List.setIfInBounds_toArray, List.set_cons_zero, List.set_cons_succ, Array.getD_eq_getD_getElem?, List.getElem?_toArray, List.getElem?_cons_zero, List.getElem?_cons_succ, Option.getD_some]
                    refine wpM_next hOps rfl rfl ?_
                    intro K hK
                    refine wp_call _ _ _ rfl Tryd.func13 rfl (by kernel_rfl) ?_
                    simp only [List.map_toArray, List.map_cons, List.map_nil, Act.eval, Array.getD_eq_getD_getElem?, List.getElem?_toArray, List.getElem?_cons_zero, List.getElem?_cons_succ, Option.getD_some]
                    refine (ROf_c H PO2.out).mono ?_; rintro e' w' ⟨rfl, H⟩
                    have hS := (H)
                    refine hK _ _ (.inr hS) ?_
                    clear hK K
                    simp only [Act.put, Act.eval, List.setIfInBounds_toArray, List.set_cons_zero, List.set_cons_succ, Array.getD_eq_getD_getElem?, List.getElem?_toArray, List.getElem?_cons_zero, List.getElem?_cons_succ, Option.getD_some]
                    refine wpM_next hOps rfl rfl ?_
                    intro K hK
                    refine wp_call _ _ _ rfl Tryd.func12 rfl (by kernel_rfl) ?_
                    simp only [List.map_toArray, List.map_cons, List.map_nil, Act.eval, Array.getD_eq_getD_getElem?, List.getElem?_toArray, List.getElem?_cons_zero, List.getElem?_cons_succ, Option.getD_some]
                    refine (RMAC11_c H (by rw [HK.out]; omega) PO2.out).mono ?_; rintro e' w' ⟨rfl, H⟩
                    rw [← HT.out]
                    have hS := (H)
                    refine hK _ _ (.inr hS) ?_
                    clear hK K
                    simp only [Act.put, Act.eval, List.setIfInBounds_toArray, List.set_cons_zero, List.set_cons_succ, Array.getD_eq_getD_getElem?, List.getElem?_toArray, List.getElem?_cons_zero, List.getElem?_cons_succ, Option.getD_some]
                    refine wpM_free hOps rfl (fun _ _ _ h => h) (yl rfl (fun w _ => exec_seql (u := T) (v := p2.mac) rfl rfl rfl w)) ?_
                    simp only [Act.put, Act.eval, List.setIfInBounds_toArray, List.set_cons_zero, List.set_cons_succ, Array.getD_eq_getD_getElem?, List.getElem?_toArray, List.getElem?_cons_zero, List.getElem?_cons_succ, Option.getD_some]
                    refine wpM_free hOps rfl (fun _ _ _ h => h) (yl (v := .bool false) rfl (fun w _ => by go_simp; exact hiff.out)) ?_
                    simp only [Act.put, Act.eval, List.setIfInBounds_toArray, List.set_cons_zero, List.set_cons_succ, Array.getD_eq_getD_getElem?, List.getElem?_toArray, List.getElem?_cons_zero, List.getElem?_cons_succ, Option.getD_some]
                    refine wpM_end ?_
                    clear hOps hS ops
                    go_wp2_with fail
                    first
                      | (refine ⟨?_, ?measure⟩; iterate 60 (try apply Exists.intro); refine ⟨?rel, rfl⟩)
                      | refine ⟨?rel, ?measure⟩
                    case rel => exact ⟨1, by omega, by go_num, H.tail⟩
                    case measure => simp [intOf]
                · as_aux_lemma =>
                    obtain ⟨h, hx⟩ : ∃ h, hops[0]? = some h := ⟨_, List.getElem?_eq_getElem (by rw [← HN.out]; exact hn1.out)⟩
                    obtain ⟨g, off, rfl⟩ := HS.out hn1.out
                    have HH := Lib.hid hx
                    have hkl := Lib.hid h.2.key
                    have f4 := Lib.hid (show (h.1.cells.drop 2).take (v8 h.1.key).length = v8 h.1.key by rw [v8_length, h.2.key]; exact HopD.part_key h.2.key)
                    have hn0 : (0 : Int) < (n : Int) := by have := hn1.out; omega
                    clear hx
                    go_wp2_with ((with_reducible refine wpList_op rfl ?_); intro _ hK; first
                      | (refine dst_is 98 rfl ?_; refine wp_lda 29 _ rfl (b := KB) (bs := key) rfl (by kernel_rfl) (by rw [HK.out]; exact size_key) 1 H rfl (hK _ _ ?_))
                      | (refine dst_is 15 rfl ?_; refine wp_alloc_sl 29 rfl info_key H (fun C w' (H : At w0 (raw C (v8 (zs 32)).toArray 29 :: raw P p2.cells.toArray 39 :: raw KB (v8 key).toArray 29 :: raw B (v8 body).toArray 24 :: F) w') _ => hK _ _ ?_))
                      | (refine sto_is 15 rfl ?_; refine wp_sta 29 _ _ rfl (b := C) (bs := zs 32) (cs := key) rfl rfl (by rw [HK.out]; exact size_key) 0 H rfl (by rw [HK.out, zs_length]) (fun w' (H : At w0 (raw C (v8 key).toArray 29 :: raw P p2.cells.toArray 39 :: raw KB (v8 key).toArray 29 :: raw B (v8 body).toArray 24 :: F) w') => hK _ _ (Stop.go ?_))))
                    refine Stop.un ?_
                    go_wp2_with ((with_reducible refine wpList_op rfl ?_); intro _ hK; first
                      | (refine dst_is 104 rfl ?_; refine wp_mid 29 _ rfl rfl (v8 h.1.key) (by kernel_rfl) (by rw [v8_length, hkl.out]; exact size_key) (by have := range_in ((((((HV.out.more _).more _).more _).more _)).elem el_hop H HH.out) f4.out; simpa using this) (hK _ _ ?_))
                      | (refine sto_is 15 rfl ?_; refine wp_sta 29 _ _ rfl (b := C) (bs := key) (cs := h.1.key) rfl rfl (by rw [hkl.out]; exact size_key) 0 H rfl (by rw [HK.out, hkl.out]) (fun w' (H : At w0 (raw C (v8 h.1.key).toArray 29 :: raw P p2.cells.toArray 39 :: raw KB (v8 key).toArray 29 :: raw B (v8 body).toArray 24 :: F) w') => hK _ _ (Stop.go ?_))))
                    refine Stop.un ?_
                    obtain ⟨s, r, e, hpe⟩ := trip (peelOf h.1.key p2)
                    have sr := peel_ok PO2.out hpe
                    have hsl := Lib.hid (SlotD.cells_length sr.1.nonce sr.1.mac)
                    have hrl := Lib.hid (PktD.cells_length sr.2)
                    obtain ⟨E, hE⟩ : ∃ E : Int, (e : Int) = E := ⟨_, rfl⟩
                    obtain ⟨T, hT⟩ : ∃ T, T = macOf h.1.key p2 := ⟨_, rfl⟩
                    have HPE := Lib.hid hpe
                    have HE := Lib.hid hE
                    have HT := Lib.hid hT
                    have hiff := Lib.hid (show ¬ (E = 4 ↔ T = p2.mac) by
                      by_cases hm : T = p2.mac
                      · have h2 : e ≠ 4 := by
                          have := @peel_e4 h.1.key p2 (by rw [← hT]; exact hm)
                          rw [hpe] at this
                          exact this
                        exact fun h => h2 (by have := h.2 hm; omega)
                      · have h2 := @peel_no h.1.key p2 (by rw [← hT]; exact hm)
                        rw [hpe] at h2
                        have h3 : e = 4 := congrArg (fun x => x.2.2) h2
                        exact fun h => hm (h.1 (by omega)))
                    clear hpe sr hE hT
                    go_wp2_with ((with_reducible refine wpList_op rfl ?_); intro _ hK; first
                      | (refine dst_is 106 rfl ?_; refine wp_lda 29 _ rfl (b := C) (bs := h.1.key) rfl (by kernel_rfl) (by rw [hkl.out]; exact size_key) 0 H rfl (hK _ _ ?_))
                      | (refine dst_is 107 rfl ?_; refine wp_mid 39 _ rfl (b := P) (off := 0) rfl p2.cells (by kernel_rfl) (by rw [hpl2.out]; exact size_pkt) (at_blk H 1 rfl) (hK _ _ ?_)))
                    refine (peel_is G H hkl.out PO2.out HPE.out HE.out).mono ?_; rintro e' w' ⟨rfl, H⟩
                    go_wp2_with ((with_reducible refine wpList_op rfl ?_); intro _ hK; first
                      | (refine dst_is 16 rfl ?_; refine wp_alloc_sl 45 rfl info_slot H (fun S w' (H : At w0 (raw S SlotD.zero.cells.toArray 45 :: raw C (v8 h.1.key).toArray 29 :: raw P p2.cells.toArray 39 :: raw KB (v8 key).toArray 29 :: raw B (v8 body).toArray 24 :: F) w') _ => hK _ _ ?_))
                      | (refine dst_is 17 rfl ?_; refine wp_alloc_sl 39 rfl info_pkt H (fun Q w' (H : At w0 (raw Q PktD.zero.cells.toArray 39 :: raw S SlotD.zero.cells.toArray 45 :: raw C (v8 h.1.key).toArray 29 :: raw P p2.cells.toArray 39 :: raw KB (v8 key).toArray 29 :: raw B (v8 body).toArray 24 :: F) w') _ => hK _ _ ?_))
                      | (refine sto_is 16 rfl ?_; refine wp_store_row_sl 45 _ _ rfl (b := S) (cells := s.cells.toArray) rfl rfl (by rw [List.size_toArray, hsl.out]; exact size_slot) (by simpa using SlotD.cells_one) 1 H rfl (by rw [List.size_toArray, List.size_toArray, hsl.out]; rfl) (fun w' H => ?_); replace H : At w0 (raw Q PktD.zero.cells.toArray 39 :: raw C (v8 h.1.key).toArray 29 :: raw P p2.cells.toArray 39 :: raw KB (v8 key).toArray 29 :: raw B (v8 body).toArray 24 :: F) w' := H.maskR [true, false]; refine hK _ _ ?_)
                      | (refine sto_is 17 rfl ?_; refine wp_store_row_sl 39 _ _ rfl (b := Q) (cells := r.cells.toArray) rfl rfl (by rw [List.size_toArray, hrl.out]; exact size_pkt) (by simpa using PktD.cells_one) 0 H rfl (by rw [List.size_toArray, List.size_toArray, hrl.out]; rfl) (fun w' H => ?_); replace H : At w0 (raw C (v8 h.1.key).toArray 29 :: raw P p2.cells.toArray 39 :: raw KB (v8 key).toArray 29 :: raw B (v8 body).toArray 24 :: F) w' := H.maskR [false]; refine hK _ _ (Stop.go ?_)))
                    refine Stop.un ?_
                    go_wp2_with fail
                    refine wpM_begin [] ((At w0 (raw C (v8 h.1.key).toArray 29 :: raw P p2.cells.toArray 39 :: raw KB (v8 key).toArray 29 :: raw B (v8 body).toArray 24 :: F))) [(0, 2), (1, 2), (2, 2), (3, 1), (4, 1), (7, 2), (8, 2), (9, 1), (5, 0), (6, 0), (10, 2), (11, 2)] rfl (by kernel_rfl) (by kernel_rfl) ((H.drew)) ?_
                    intro ops hOps hS
                    replace H := H.drew
                    refine wpM_free hOps rfl (fun _ _ _ h => h) (yl_move rfl _ rfl) ?_
                    simp only [Act.put, Act.eval, List.setIfInBounds_toArray, List.set_cons_zero, List.set_cons_succ, Array.getD_eq_getD_getElem?, List.getElem?_toArray, List.getElem?_cons_zero, List.getElem?_cons_succ, Option.getD_some]
                    refine wpM_free hOps rfl (fun _ _ _ h => h) (yl (v := .bool (decide (E = 4))) rfl (fun w _ => by go_simp; first | done | rfl | simp)) ?_
                    simp only [Act.put, Act.eval, List.setIfInBounds_toArray, List.set_cons_zero, List.set_cons_succ, Array.getD_eq_getD_getElem?, List.getElem?_toArray, List.getElem?_cons_zero, List.getElem?_cons_succ, Option.getD_some]
                    refine wpM_free hOps (v := ?vOp293) rfl (fun _ _ _ h => h) (yl rfl ?yOp293) ?_
                    case yOp293 => (intro w hw; go_simp; first | done | rfl)
                    simp only [Act.put, Act.eval, List.setIfInBounds_toArray, List.set_cons_zero, List.set_cons_succ, Array.getD_eq_getD_getElem?, List.getElem?_toArray, List.getElem?_cons_zero, List.getElem?_cons_succ, Option.getD_some]
                    refine wpM_take hOps hS rfl (fun _ _ _ h => h) (yl rfl (fun w hw => exec_str_of (bs := h.1.key) rfl under_bytesT under_u8T under_strT rfl hw (see_blk 0 rfl hkl.out.symm))) ?_
                    simp only [Act.put, Act.eval, List.setIfInBounds_toArray, List.set_cons_zero, List.set_cons_succ, Array.getD_eq_getD_getElem?, List.getElem?_toArray, List.getElem?_cons_zero, List.getElem?_cons_succ, Option.getD_some]
                    refine wpM_take hOps hS rfl (fun _ _ _ h => h) (yl_mid rfl 39 _ rfl (b := P) (off := 0) rfl p2.cells (by kernel_rfl) (by rw [hpl2.out]; exact size_pkt) (fun w hw => at_blk hw 1 rfl)) ?_
                    simp only [Act.put, Act.eval, List.setIfInBounds_toArray, List.set_cons_zero, List.set_cons_succ, Array.getD_eq_getD_getElem?, List.getElem?_toArray, List.getElem?_cons_zero, List.getElem?_cons_succ, Option.getD_some]
                    refine wpM_free hOps (v := ?vOp299) rfl (fun _ _ _ h => h) (yl rfl ?yOp299) ?_
                    case yOp299 => (intro w hw; go_simp; first | done | rfl)
                    simp only [Act.put, Act.eval, List.setIfInBounds_toArray, List.set_cons_zero, List.set_cons_succ, Array.getD_eq_getD_getElem?, List.getElem?_toArray, List.getElem?_cons_zero, List.getElem?_cons_succ, Option.getD_some]
                    refine wpM_free hOps (v := ?vOp301) rfl (fun _ _ _ h => h) (yl rfl ?yOp301) ?_
                    case yOp301 => (intro w hw; go_simp; first | done | rfl)
                    simp only [Act.put, Act.eval, List.setIfInBounds_toArray, List.set_cons_zero, List.set_cons_succ, Array.getD_eq_getD_getElem?, List.getElem?_toArray, List.getElem?_cons_zero, List.getElem?_cons_succ, Option.getD_some]
                    refine wpM_take hOps hS rfl (fun _ _ _ h => h) (yl rfl (fun w hw => exec_str_of (bs := p2.mac) rfl under_bytesT under_u8T under_strT rfl hw (see_part 1 rfl PO2.out.mac.symm (Nat.le_refl _) h32.out))) ?_
                    simp only [Act.put, Act.eval, List.setIfInBounds_toArray, List.set_cons_zero, List.set_cons_succ, Array.getD_eq_getD_getElem?, List.getElem?_toArray, List.getElem?_cons_zero, List.getElem?_cons_succ, Option.getD_some]
                    refine wpM_next hOps rfl rfl ?_
                    intro K hK
                    refine wp_call _ _ _ rfl Tryd.func13 rfl (by kernel_rfl) ?_
                    simp only [List.map_toArray, List.map_cons, List.map_nil, Act.eval, Array.getD_eq_getD_getElem?, List.getElem?_toArray, List.getElem?_cons_zero, List.getElem?_cons_succ, Option.getD_some]
                    refine (ROf_c H PO2.out).mono ?_; rintro e' w' ⟨rfl, H⟩
                    have hS := (H)
                    refine hK _ _ (.inr hS) ?_
                    clear hK K
                    simp only [Act.put, Act.eval, List.setIfInBounds_toArray, List.set_cons_zero, List.set_cons_succ, Array.getD_eq_getD_getElem?, List.getElem?_toArray, List.getElem?_cons_zero, List.getElem?_cons_succ, Option.getD_some]
                    refine wpM_next hOps rfl rfl ?_
                    intro K hK
                    refine wp_call _ _ _ rfl Tryd.func12 rfl (by kernel_rfl) ?_
                    simp only [List.map_toArray, List.map_cons, List.map_nil, Act.eval, Array.getD_eq_getD_getElem?, List.getElem?_toArray, List.getElem?_cons_zero, List.getElem?_cons_succ, Option.getD_some]
                    refine (RMAC11_c H (by rw [hkl.out]; omega) PO2.out).mono ?_; rintro e' w' ⟨rfl, H⟩
                    rw [← HT.out]
                    have hS := (H)
                    refine hK _ _ (.inr hS) ?_
                    clear hK K
                    simp only [Act.put, Act.eval, List.setIfInBounds_toArray, List.set_cons_zero, List.set_cons_succ, Array.getD_eq_getD_getElem?, List.getElem?_toArray, List.getElem?_cons_zero, List.getElem?_cons_succ, Option.getD_some]
                    refine wpM_free hOps rfl (fun _ _ _ h => h) (yl rfl (fun w _ => exec_seql (u := T) (v := p2.mac) rfl rfl rfl w)) ?_
                    simp only [Act.put, Act.eval, List.setIfInBounds_toArray, List.set_cons_zero, List.set_cons_succ, Array.getD_eq_getD_getElem?, List.getElem?_toArray, List.getElem?_cons_zero, List.getElem?_cons_succ, Option.getD_some]
                    refine wpM_free hOps rfl (fun _ _ _ h => h) (yl (v := .bool false) rfl (fun w _ => by go_simp; exact hiff.out)) ?_
                    simp only [Act.put, Act.eval, List.setIfInBounds_toArray, List.set_cons_zero, List.set_cons_succ, Array.getD_eq_getD_getElem?, List.getElem?_toArray, List.getElem?_cons_zero, List.getElem?_cons_succ, Option.getD_some]
                    refine wpM_end ?_
                    clear hOps hS ops
                    go_wp2_with fail
                    first
                      | (refine ⟨?_, ?measure⟩; iterate 60 (try apply Exists.intro); refine ⟨?rel, rfl⟩)
                      | refine ⟨?rel, ?measure⟩
                    case rel => exact ⟨2, by omega, by go_num, H.tail⟩
                    case measure => simp [intOf]
                · go_wp2_with fail
                  exact ⟨rfl, _, results_tmp rfl _ _ _, rfl, H.maskR [false, false, false]⟩
theorem onionMAC_walk {W : World} {v : Value} {hops : List HopO} {body key : List (BitVec 8)} {z y : Int} (G : Glob W) (hv : SeeL 54 hopC W [] v hops) (hb : body.length = 256) (hk : key.length = 32) (hz : (Lit.int .i64 z).wf = true) (hy : (Lit.int .u8 y).wf = true) :
    Calls Tryd.prog 4 #[v, .agg (v8 body).toArray, .agg (v8 key).toArray, .int .i64 z, .int .u8 y] W fun e w' => e = .returned (.bool true) ∧ Below W.heap.size W w' := by
  obtain ⟨b, rfl⟩ := u8_bv hy
  exact (onionMAC_c G (At.start W) hv hb hk).mono fun _ _ h => ⟨h.1, h.2.below⟩
theorem onionMAC_own : ownKnob Tryd.prog.godebug = none := by kernel_rfl
theorem onionMAC_laidout : laidOutB Tryd.prog = true := by kernel_rfl
set_option maxRecDepth 100000 in
theorem onionMAC_contract (H : Type) (enc : TypeId × Value → H) (W : World) (base : Nat) (args : Array Value) (ds gs : List (DataW H)) (before : List MemPlace)
    (hval : ∀ (j : Nat) t v, Tryd.f4.params[j]? = some t → args[j]? = some v → Value.okWide Tryd.prog W .any base t v)
    (hW : DataW.Whole enc Tryd.prog Tryd.f4.params.toList Rows.onionMACSpec.vars false W args.toList ds gs before) (hL : laidMetH Tryd.prog Rows.onionMACRow.laid W) :
    Calls Tryd.prog 4 args W fun e W' => ∃ v, e = .returned v ∧ Rows.onionMACSpec.post enc Tryd.prog Tryd.f4 false true false false W args v W' := by
  have G : Glob W := glob_of_laid hL
  have hW' := hW
  obtain ⟨p, q, hA0, hV, rfl, hfz, hnd⟩ := hW
  have hA : DataW.TrodAll enc Tryd.prog W 0 (fun _ => true) true Tryd.f4.params.toList args.toList ds p := hA0
  rw [Tryd.params4] at hA hval
  obtain ⟨v0, vs0, d0, ds0, p0, q0, hargs, rfl, rfl, h0, r0⟩ := trodAll_cons hA
  obtain ⟨v1, vs1, d1, ds1, p1, q1, rfl, rfl, rfl, h1, r1⟩ := trodAll_cons r0
  obtain ⟨v2, vs2, d2, ds2, p2, q2, rfl, rfl, rfl, h2, r2⟩ := trodAll_cons r1
  obtain ⟨v3, vs3, d3, ds3, p3, q3, rfl, rfl, rfl, h3, r3⟩ := trodAll_cons r2
  obtain ⟨v4, vs4, d4, ds4, p4, q4, rfl, rfl, rfl, h4, r4⟩ := trodAll_cons r3
  obtain ⟨rfl, rfl, rfl⟩ := trodAll_nil r4
  obtain rfl : args = #[v0, v1, v2, v3, v4] := by cases args; simp_all
  obtain ⟨rfl, rfl⟩ := trodVars_none hV
  have k0 := h0
  have lt0 : ∀ x ∈ p0, x.block < W.heap.size := by obtain ⟨m, hm⟩ := k0; exact DataW.trod_lt m _ _ _ hm
  have k1 := h1
  have lt1 : ∀ x ∈ p1, x.block < W.heap.size := by obtain ⟨m, hm⟩ := k1; exact DataW.trod_lt m _ _ _ hm
  have k2 := h2
  have lt2 : ∀ x ∈ p2, x.block < W.heap.size := by obtain ⟨m, hm⟩ := k2; exact DataW.trod_lt m _ _ _ hm
  have k3 := h3
  have lt3 : ∀ x ∈ p3, x.block < W.heap.size := by obtain ⟨m, hm⟩ := k3; exact DataW.trod_lt m _ _ _ hm
  have k4 := h4
  have lt4 : ∀ x ∈ p4, x.block < W.heap.size := by obtain ⟨m, hm⟩ := k4; exact DataW.trod_lt m _ _ _ hm
  obtain ⟨a0, f0⟩ := open_hops (e := 35) (by kernel_rfl) Tryd.underlying22 (by kernel_rfl) (hval 0 22 v0 rfl rfl) h0
  obtain ⟨a1, f1, rfl⟩ := open_bytes (n := 256) (by kernel_rfl) Tryd.underlying24 (hval 1 24 v1 rfl rfl) h1
  obtain ⟨a2, f2, rfl⟩ := open_bytes (n := 32) (by kernel_rfl) Tryd.underlying29 (hval 2 29 v2 rfl rfl) h2
  obtain ⟨a3, rfl, rfl, rfl, f3⟩ := open_int Tryd.underlying3 (hval 3 3 v3 rfl rfl) h3
  obtain ⟨a4, rfl, rfl, rfl, f4⟩ := open_int Tryd.underlying5 (hval 4 5 v4 rfl rfl) h4
  clear hA0
  refine (onionMAC_walk G f0 f1 f2 f3 f4).mono fun e W' ⟨he, bel⟩ => ?_
  subst he
  exact ⟨_, rfl, _, _, _, [], _, [], hW', trodAll_mk1 (shut_bool Tryd.underlying4 _), (trodAll_cons_mk (Below.trod onionMAC_laidout (by kernel_rfl) (of_decide_eq_true (by kernel_rfl)) k0 bel lt0) (trodAll_cons_mk (Below.trod onionMAC_laidout (by kernel_rfl) (of_decide_eq_true (by kernel_rfl)) k1 bel lt1) (trodAll_cons_mk (Below.trod onionMAC_laidout (by kernel_rfl) (of_decide_eq_true (by kernel_rfl)) k2 bel lt2) (trodAll_cons_mk (Below.trod onionMAC_laidout (by kernel_rfl) (of_decide_eq_true (by kernel_rfl)) k3 bel lt3) (trodAll_cons_mk (Below.trod onionMAC_laidout (by kernel_rfl) (of_decide_eq_true (by kernel_rfl)) k4 bel lt4) trodAll_mk0))))), rfl, bel.frame _, fun h => by cases h⟩
noncomputable def onionMAC_wit : Array Value := #[.slice none 0 0, .agg (v8 (zs 256)).toArray, .agg (v8 (zs 32)).toArray, .int .i64 0, .int .u8 0]
theorem onionMAC_met (os : Os) : laidMet Tryd.prog Rows.onionMACRow.laid ((laidWorld os).forCall (fun _ _ => 0) ⟨#[], onionMAC_wit, []⟩).memory := laidMet_of_run' 8 (by kernel_rfl) (by kernel_rfl)
set_option maxRecDepth 100000 in
theorem onionMAC_lifted (os : Os) (started : os.Started) (H : Type) (enc : TypeId × Value → H) (F : Stop.Interp) :
    ReturnsInHanded {} Tryd.checked os 4 .any ((OpenSpec.ofChange Rows.onionMACSpec).preRow enc Tryd.prog Tryd.f4 Rows.onionMACRow.domain false Rows.onionMACRow.laid) (((OpenSpec.ofChange Rows.onionMACSpec).at F).post enc Tryd.prog Tryd.f4 false true false false) := by
  obtain ⟨x, hx⟩ := Option.isSome_iff_exists.1 (show (DataW.whole enc Tryd.prog ((laidWorld os).forCall (fun _ _ => 0) ⟨#[], onionMAC_wit, []⟩).memory Tryd.f4.params.toList Rows.onionMACSpec.vars false onionMAC_wit.toList 8).isSome = true by kernel_rfl)
  refine returnsInHanded_of_row (C := Tryd.checked) (s := OpenSpec.ofChange Rows.onionMACSpec) onionMAC_own started (by kernel_rfl) Tryd.func4
    (witness_row_at (enc := enc) (C := Tryd.checked) false (laidWorld os) onionMAC_wit rfl (by kernel_rfl) (by kernel_rfl) (by kernel_rfl)
      (OpenSpec.preRow_of_cond 8 hx (by kernel_rfl) (fun k hk => by cases hk) (by kernel_rfl) (onionMAC_met os))) ?_
  intro W base args ds gs before hval hW _ _ _ hL _ _
  exact onionMAC_contract H enc W base args ds gs before hval hW hL
theorem onionMAC_said : Rows.OnionMACSaid :=
  OpenClaim.holds_of_cond 4 Tryd.f4 rfl rfl rfl rfl rfl rfl rfl ⟨rfl, rfl, rfl, rfl, rfl⟩ rfl rfl rfl rfl rfl (by kernel_rfl) Tryd.func4 (by kernel_rfl)
    (of_decide_eq_true (by kernel_rfl)) (by unfold Func.isWrapper; first | (rw [if_pos (by decide +kernel)]; kernel_rfl) | (rw [if_neg (by decide +kernel)]; exact ⟨rfl, rfl⟩))
    (fun os started H enc _ F => by rw [OpenClaim.pre_eq_preRow]; exact onionMAC_lifted os started H enc F)
theorem onionMAC_plain (f : FuncId) (fn : Func) (hf : Tryd.pinned.checked.prog.funcNamed "hourglass/hourglasslaw11.OnionMAC" = some f) (hfn : Tryd.pinned.checked.prog.funcs[f]? = some fn) :
    false = Tryd.pinned.checked.prog.looks [] ∧ ∀ (j : Nat) t, fn.params[j]? = some t → Tryd.pinned.checked.prog.wantsStandIn t = false := by
  obtain rfl : f = 4 := Option.some.inj ((show Tryd.prog.funcNamed "hourglass/hourglasslaw11.OnionMAC" = some 4 by kernel_rfl).symm.trans hf) |>.symm
  obtain rfl : fn = Tryd.f4 := (Option.some.inj (Tryd.func4.symm.trans hfn)).symm
  refine ⟨by kernel_rfl, fun j t ht => ?_⟩
  have hall : ∀ t ∈ Tryd.f4.params, Tryd.prog.wantsStandIn t = false := by
    have h : (Tryd.f4.params.toList.all fun t => !Tryd.prog.wantsStandIn t) = true := by kernel_rfl
    intro t ht
    simpa using List.all_eq_true.1 h t (Array.mem_toList_iff.2 ht)
  exact hall t (Array.mem_of_getElem? ht)
/-- The card. -/
theorem onionMAC_holds : Rows.OnionMACCardSaid :=
  Claim7.holds_tied_plain_at .later [] _ _ _ _ onionMAC_said (fun _ h => by cases h) (by kernel_rfl) (fun _ h => by cases h) onionMAC_row_tie rfl ⟨rfl, rfl⟩ (by kernel_rfl) rfl onionMAC_plain (by kernel_rfl)
#print axioms onionMAC_holds
end Go.Proofs.YtgdphamdbpkjdaaDoor
