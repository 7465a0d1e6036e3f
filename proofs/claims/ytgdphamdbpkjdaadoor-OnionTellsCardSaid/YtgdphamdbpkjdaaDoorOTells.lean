/-
  Chapter 11: OnionTells: a packet is made, and peeled, as the document says.
-/
import Derived.Test.YtgdphamdbpkjdaaDoorLawA
import Derived.Test.YtgdphamdbpkjdaaDoorCard
import Derived.Test.YtgdphamdbpkjdaaDoorROnC
import Derived.Deep.CutRange
namespace Go.Proofs.YtgdphamdbpkjdaaDoor
open Go.ChangeShapes Go.WideShapes Go.ChangeAt Go.RowKit Go.Hg
set_option linter.unusedSimpArgs false
set_option linter.unusedVariables false
theorem hop_at0 (h : HopO) : h.1.cells[0]? = some (.int .u16 (h.1.addr : Int)) := rfl
theorem hop_at1 (h : HopO) : h.1.cells[1]? = some (.int .u16 (h.1.who : Int)) := rfl
theorem places_rh : placesOf Tryd.prog 87 = some (rhz, [(0, 1), (1, 1), (2, 1), (3, 1), (4, 16), (20, 1), (21, 1), (22, 1)]) := by kernel_rfl
theorem rh_built (h : HopO) : buildL [(0, 1), (1, 1), (2, 1), (3, 1), (4, 16), (20, 1), (21, 1), (22, 1)] rhz [(0, [.int .u16 (h.1.addr : Int)]), (1, [.int .u16 (h.1.who : Int)]), (2, [.string (sB h.1.key)]), (3, [.int .u32 (h.1.epoch : Int)]), (4, v8 h.1.nonce), (5, [.int .u64 (h.1.lo : Int)]), (6, [.int .u64 (h.1.hi : Int)]), (7, [.int .u32 (h.1.delay : Int)])] = some (rhC h) := by
  obtain ⟨a, ha⟩ : ∃ a, a = v8 h.1.nonce := ⟨_, rfl⟩
  have hl : a.length = 16 := by rw [ha, v8_length, h.2.nonce]
  unfold rhC
  rw [← ha]
  match a, hl with
  | [a0, a1, a2, a3, a4, a5, a6, a7, a8, a9, a10, a11, a12, a13, a14, a15], _ => rfl
theorem eqFields_strs {P : Program} {w : World} {xs : Array Value} {d : Nat} : ∀ (fs : List Field), (∀ f ∈ fs, P.underlying f.type = some .string ∧ ∃ s, xs[f.offset]? = some (Value.string s)) → (Op.eqFields (d + 1) xs xs fs).run P w = .ok true w
  | [], _ => by simp [Op.eqFields, Sem.run_pure]
  | f :: fs, h => by
    obtain ⟨ht, s, hs⟩ := h f List.mem_cons_self
    have ih := eqFields_strs (P := P) (w := w) (xs := xs) (d := d) fs fun g hg => h g (List.mem_cons_of_mem _ hg)
    have hp : (part f.type xs f.offset).run P w = .ok (.string s) w := by
      unfold part
      simp [isAgg, run_underlying ht, hs]
    unfold Op.eqFields
    split
    · simp [hp, run_equalIn_string w d f.type s s ht, ih]
    · exact ih
theorem fields_rp : ((Tryd.prog.fieldsOf 52).toList.all fun f => f.type == 9 && decide (f.offset < 6)) = true := by kernel_rfl
theorem neq_rp (p : PktD) (w : World) (o : Oper) (ρ : Operand → Value) (x y : Operand) (yt : TypeId) (ho : o.op = .binOp .neq 52 x y yt) (hx : ρ x = .agg (rpC p).toArray) (hy : ρ y = .agg (rpC p).toArray) : (execOp ρ o).run Tryd.prog w = .ok (.value (.bool false)) w := by
  have hg : (eqGuard .neq 52 x y (.agg (rpC p).toArray) (.agg (rpC p).toArray)).run Tryd.prog w = .ok () w := guard_bytes (P := Tryd.prog) .neq (by kernel_rfl) _ _
  unfold execOp
  simp only [ho, hx, hy, Sem.run_bind, hg, Result.andThen_ok, run_neq_struct]
  have h := run_equalIn_agg (P := Tryd.prog) w 9999 52 (rpC p).toArray (rpC p).toArray (by kernel_rfl) (by kernel_rfl)
  have h2 := eqFields_strs (P := Tryd.prog) (w := w) (xs := (rpC p).toArray) (d := 9998) (Tryd.prog.fieldsOf 52).toList (fun f hf => by
    have h3 := List.all_eq_true.1 fields_rp f hf
    simp only [Bool.and_eq_true, beq_iff_eq, decide_eq_true_eq] at h3
    refine ⟨by rw [h3.1]; exact under_strT, ?_⟩
    have h6 := h3.2
    rw [List.getElem?_toArray]
    match hk : f.offset, h6 with
    | 0, _ => exact ⟨_, rfl⟩
    | 1, _ => exact ⟨_, rfl⟩
    | 2, _ => exact ⟨_, rfl⟩
    | 3, _ => exact ⟨_, rfl⟩
    | 4, _ => exact ⟨_, rfl⟩
    | 5, _ => exact ⟨_, rfl⟩)
  rw [h, h2]
  rfl
set_option maxRecDepth 10000 in
set_option maxHeartbeats 2000000 in
theorem lref_c {w0 w : World} {F : List SP} {v : Value} {hops : List HopO} (H : At w0 F w) (hv : SeeL 54 hopC w0 F v hops) (h6 : hops.length ≤ 6) :
    Calls Tryd.prog 15 #[v] w fun r w' => ∃ a q, r = .returned (.slice a hops.length q) ∧ At w0 (lrow 87 23 rhC (.slice a hops.length q) hops :: F) w' := by
  obtain ⟨a, cap, rfl, hcap, hsome⟩ := hv.slice
  obtain ⟨m, hm⟩ : ∃ m, m = hops.length := ⟨_, rfl⟩
  rw [← hm] at hv hsome ⊢
  have HV := Lib.hid hv
  have HS := Lib.hid hsome
  have HM := Lib.hid hm
  have H6 := Lib.hid (show m ≤ 6 by omega)
  clear hv hcap hsome hm h6
  go_enter Tryd.func15, Tryd.ntmps15
  go_wp2_with fail
  go_loopw [3, 4] (fun v i wr => ∃ (c : Nat) (b : Option Addr) (q : Nat), c ≤ m ∧ v = .slice b c q ∧ i = .int .i64 (c : Int) ∧ At w0 (lrow 87 23 rhC (.slice b c q) (hops.take c) :: F) wr) (fun _ i _ => m - (intOf i).toNat)
  case atStart => exact ⟨0, none, 0, by omega, rfl, rfl, by simpa using lrow_nil H rhC 87 23⟩
  case round =>
    clear H
    obtain ⟨c, b, q, hc, rfl, rfl, H⟩ := hrel
    have hlen := Lib.hid (show (hops.take c).length = c by rw [List.length_take, ← HM.out]; omega)
    by_cases hcm : c < m
    · have hlt : (c : Int) < (m : Int) := by omega
      have e1 : IntKind.i64.wrap ((c : Int) + 1) = ((c + 1 : Nat) : Int) := by rw [IntKind.wrap_i64]; have := H6.out; omega
      obtain ⟨g, off, rfl⟩ := HS.out (by omega)
      obtain ⟨h, hx⟩ : ∃ h, hops[c]? = some h := ⟨_, List.getElem?_eq_getElem (by rw [← HM.out]; exact hcm)⟩
      have HX := Lib.hid hx
      have hsn := Lib.hid (show hops.take c ++ [h] = hops.take (c + 1) by rw [List.take_add_one, hx]; rfl)
      have hlen2 := Lib.hid (show (hops.take (c + 1)).length = c + 1 by rw [List.length_take, ← HM.out]; omega)
      have h54 := Lib.hid (HopD.cells_length h.2.key h.2.nonce)
      have hk := Lib.hid (HopD.part_key h.2.key)
      have hn := Lib.hid (HopD.part_nonce h.2.key h.2.nonce)
      have d34 := Lib.hid (HopD.at_epoch (h := h.1) h.2.key)
      have d51 := Lib.hid (show h.1.cells[51]? = some (.int .u64 (h.1.lo : Int)) from HopD.at_post h.2.key h.2.nonce 0)
      have d52 := Lib.hid (show h.1.cells[52]? = some (.int .u64 (h.1.hi : Int)) from HopD.at_post h.2.key h.2.nonce 1)
      have d53 := Lib.hid (show h.1.cells[53]? = some (.int .u32 (h.1.delay : Int)) from HopD.at_post h.2.key h.2.nonce 2)
      have HBL := Lib.hid (run_buildL places_rh [(0, .int .u16 (h.1.addr : Int)), (1, .int .u16 (h.1.who : Int)), (2, .string (sB h.1.key)), (3, .int .u32 (h.1.epoch : Int)), (4, .agg (v8 h.1.nonce).toArray), (5, .int .u64 (h.1.lo : Int)), (6, .int .u64 (h.1.hi : Int)), (7, .int .u32 (h.1.delay : Int))] (rh_built h))
      clear hx
      go_wp2_with ((with_reducible refine wpList_op rfl ?_); intro _ hK; first
        | (refine dst_is 15 rfl ?_; refine wp_mid 35 _ rfl (b := g) (off := off + c * 54) rfl h.1.cells (by kernel_rfl) (by rw [h54.out]; exact size_hop) ((HV.out.more _).elem el_hop H HX.out) (hK _ _ ?_))
        | (refine dst_is 5 rfl ?_; refine wp_alloc_sl 35 rfl info_hop H (fun D w' (H : At w0 (raw D hop0.cells.toArray 35 :: lrow 87 23 rhC (.slice b c q) (hops.take c) :: F) w') _ => hK _ _ ?_))
        | (refine sto_is 5 rfl ?_; refine wp_store_row_sl 35 _ _ rfl (b := D) (cells := h.1.cells.toArray) rfl rfl (by rw [List.size_toArray, h54.out]; exact size_hop) (by simpa using HopD.cells_one) 0 H rfl (by rw [List.size_toArray, List.size_toArray, h54.out]; rfl) (fun w' (H : At w0 (raw D h.1.cells.toArray 35 :: lrow 87 23 rhC (.slice b c q) (hops.take c) :: F) w') => hK _ _ (Stop.go ?_))))
      refine Stop.un ?_
      go_wp2_with fail
      refine wpS_begin [] ([raw D h.1.cells.toArray 35]) (.fr 0 (.fr 1 (.tk 2 (.fr 3 (.tk 4 (.fr 5 (.fr 6 (.tk 7 (.fr 8 (.tk 9 (.fr 10 (.tk 11 (.fr 12 (.tk 13 (.fr 14 (.tk 15 (.fr 16 (.tk 17 (.fr 18 (.nx 19 (.nx 20 (.nx 21 .nil)))))))))))))))))))))) rfl (by kernel_rfl) (by kernel_rfl) H ?_
      clear H
      intro ops hOps
      refine wpS_free hOps rfl (fun _ _ _ h => h) (yl_move rfl _ rfl) ?_
      simp only [nrm]
      refine wpS_free hOps (v := ?vOp3773) rfl (fun _ _ _ h => h) (yl rfl ?yOp3773) ?_
      case yOp3773 => (intro w hw; go_simp; first | done | rfl)
      simp only [nrm]
      refine wpS_take hOps rfl (fun _ _ _ h => h) (by first | exact Imp.refl _ | exact (Imp.refl _).more _ | exact ((Imp.refl _).more _).more _ | exact seps_pick _ _ (by repeat (first | exact List.Sublist.refl _ | exact List.nil_sublist _ | apply List.Sublist.cons_cons | apply List.Sublist.cons))) (GY.of_yields (yl_get rfl _ _ rfl rfl (by kernel_rfl) (fun w hw => at_raw hw 0 rfl (hop_at0 h)))) ?_
      simp only [nrm]
      refine wpS_free hOps (v := ?vOp3777) rfl (fun _ _ _ h => h) (yl rfl ?yOp3777) ?_
      case yOp3777 => (intro w hw; go_simp; first | done | rfl)
      simp only [nrm]
      refine wpS_take hOps rfl (fun _ _ _ h => h) (by first | exact Imp.refl _ | exact (Imp.refl _).more _ | exact ((Imp.refl _).more _).more _ | exact seps_pick _ _ (by repeat (first | exact List.Sublist.refl _ | exact List.nil_sublist _ | apply List.Sublist.cons_cons | apply List.Sublist.cons))) (GY.of_yields (yl_get rfl _ _ rfl rfl (by kernel_rfl) (fun w hw => at_raw hw 0 rfl (hop_at1 h)))) ?_
      simp only [nrm]
      refine wpS_free hOps (v := ?vOp3781) rfl (fun _ _ _ h => h) (yl rfl ?yOp3781) ?_
      case yOp3781 => (intro w hw; go_simp; first | done | rfl)
      simp only [nrm]
      refine wpS_free hOps (v := ?vOp3783) rfl (fun _ _ _ h => h) (yl rfl ?yOp3783) ?_
      case yOp3783 => (intro w hw; go_simp; first | done | rfl)
      simp only [nrm]
      refine wpS_take hOps rfl (fun _ _ _ h => h) (by first | exact Imp.refl _ | exact (Imp.refl _).more _ | exact ((Imp.refl _).more _).more _ | exact seps_pick _ _ (by repeat (first | exact List.Sublist.refl _ | exact List.nil_sublist _ | apply List.Sublist.cons_cons | apply List.Sublist.cons))) (GY.of_yields (yl rfl (fun w hw => exec_str_of (bs := h.1.key) rfl under_bytesT under_u8T under_strT rfl hw (see_part 0 rfl h.2.key.symm (Nat.le_refl _) hk.out)))) ?_
      simp only [nrm]
      refine wpS_free hOps (v := ?vOp3787) rfl (fun _ _ _ h => h) (yl rfl ?yOp3787) ?_
      case yOp3787 => (intro w hw; go_simp; first | done | rfl)
      simp only [nrm]
      refine wpS_take hOps rfl (fun _ _ _ h => h) (by first | exact Imp.refl _ | exact (Imp.refl _).more _ | exact ((Imp.refl _).more _).more _ | exact seps_pick _ _ (by repeat (first | exact List.Sublist.refl _ | exact List.nil_sublist _ | apply List.Sublist.cons_cons | apply List.Sublist.cons))) (GY.of_yields (yl_get rfl _ _ rfl rfl (by kernel_rfl) (fun w hw => at_raw hw 0 rfl d34.out))) ?_
      simp only [nrm]
      refine wpS_free hOps (v := ?vOp3791) rfl (fun _ _ _ h => h) (yl rfl ?yOp3791) ?_
      case yOp3791 => (intro w hw; go_simp; first | done | rfl)
      simp only [nrm]
      refine wpS_take hOps rfl (fun _ _ _ h => h) (by first | exact Imp.refl _ | exact (Imp.refl _).more _ | exact ((Imp.refl _).more _).more _ | exact seps_pick _ _ (by repeat (first | exact List.Sublist.refl _ | exact List.nil_sublist _ | apply List.Sublist.cons_cons | apply List.Sublist.cons))) (GY.of_yields (yl_mid rfl 32 _ rfl (b := D) (off := 35) rfl (v8 h.1.nonce) (by kernel_rfl) (by rw [v8_length, h.2.nonce]; exact size_nonce) (fun w hw => at_part hw 0 rfl (by rw [v8_length, h.2.nonce]; exact hn.out)))) ?_
      simp only [nrm]
      refine wpS_free hOps (v := ?vOp3795) rfl (fun _ _ _ h => h) (yl rfl ?yOp3795) ?_
      case yOp3795 => (intro w hw; go_simp; first | done | rfl)
      simp only [nrm]
      refine wpS_take hOps rfl (fun _ _ _ h => h) (by first | exact Imp.refl _ | exact (Imp.refl _).more _ | exact ((Imp.refl _).more _).more _ | exact seps_pick _ _ (by repeat (first | exact List.Sublist.refl _ | exact List.nil_sublist _ | apply List.Sublist.cons_cons | apply List.Sublist.cons))) (GY.of_yields (yl_get rfl _ _ rfl rfl (by kernel_rfl) (fun w hw => at_raw hw 0 rfl d51.out))) ?_
      simp only [nrm]
      refine wpS_free hOps (v := ?vOp3799) rfl (fun _ _ _ h => h) (yl rfl ?yOp3799) ?_
      case yOp3799 => (intro w hw; go_simp; first | done | rfl)
      simp only [nrm]
      refine wpS_take hOps rfl (fun _ _ _ h => h) (by first | exact Imp.refl _ | exact (Imp.refl _).more _ | exact ((Imp.refl _).more _).more _ | exact seps_pick _ _ (by repeat (first | exact List.Sublist.refl _ | exact List.nil_sublist _ | apply List.Sublist.cons_cons | apply List.Sublist.cons))) (GY.of_yields (yl_get rfl _ _ rfl rfl (by kernel_rfl) (fun w hw => at_raw hw 0 rfl d52.out))) ?_
      simp only [nrm]
      refine wpS_free hOps (v := ?vOp3803) rfl (fun _ _ _ h => h) (yl rfl ?yOp3803) ?_
      case yOp3803 => (intro w hw; go_simp; first | done | rfl)
      simp only [nrm]
      refine wpS_take hOps rfl (fun _ _ _ h => h) (by first | exact Imp.refl _ | exact (Imp.refl _).more _ | exact ((Imp.refl _).more _).more _ | exact seps_pick _ _ (by repeat (first | exact List.Sublist.refl _ | exact List.nil_sublist _ | apply List.Sublist.cons_cons | apply List.Sublist.cons))) (GY.of_yields (yl_get rfl _ _ rfl rfl (by kernel_rfl) (fun w hw => at_raw hw 0 rfl d53.out))) ?_
      simp only [nrm]
      refine wpS_free hOps rfl (fun _ _ _ h => h) (Hg.yl_build rfl 87 _ rfl (by rw [Array.toList_map]; rfl) HBL.out) ?_
      simp only [nrm]
      refine wpS_next hOps rfl rfl ?_
      intro w H K hK
      refine wp_lbuild el_rhop (y := h) 58 under_rhops _ rfl rfl rfl (by omega) (by omega) H (fun C w' H => ?_)
      refine hK _ _ _ (.inr (.inl (by first | exact Imp.refl _ | exact (Imp.refl _).more _ | exact ((Imp.refl _).more _).more _ | exact seps_pick _ _ (by repeat (first | exact List.Sublist.refl _ | exact List.nil_sublist _ | apply List.Sublist.cons_cons | apply List.Sublist.cons))))) H ?_
      clear hK K H
      try simp only [nrm]
      refine wpS_next hOps rfl rfl ?_
      intro w H K hK
      refine wp_lapp_one el_rhop (xs := hops.take c) (y := h) 58 under_rhops _ _ rfl rfl (H.pull 2 rfl) rfl 0 rfl (by simp) (by rw [hlen.out]; have := H6.out; simp [maxLen]; omega) (by rw [hlen.out]; have := H6.out; omega) (fun b2 q2 w' H => ?_)
      rw [hsn.out, hlen2.out] at H ⊢
      replace H : At w0 (lrow 87 23 rhC (.slice b2 (c + 1) q2) (hops.take (c + 1)) :: raw D h.1.cells.toArray 35 :: F) w' := H.maskR [true, false, true]
      refine hK _ _ _ (.inr (.inr (by first | exact Imp.refl _ | exact (Imp.refl _).more _ | exact ((Imp.refl _).more _).more _ | exact seps_pick _ _ (by repeat (first | exact List.Sublist.refl _ | exact List.nil_sublist _ | apply List.Sublist.cons_cons | apply List.Sublist.cons))))) H ?_
      clear hK K H
      try simp only [nrm]
      refine wpS_next hOps rfl rfl ?_
      intro w H K hK
      refine wp_run rfl ?_
      refine hK _ _ _ (.inr (.inl (Imp.refl _))) H ?_
      clear hK K H
      try simp only [nrm]
      refine wpS_end (fun w H => ?_)
      clear hOps ops
      replace H : At w0 (lrow 87 23 rhC (.slice b2 (c + 1) q2) (hops.take (c + 1)) :: F) w := H.maskR [true, false]
      go_wp2_with fail
      first
        | (refine ⟨?_, ?measure⟩; iterate 220 (try apply Exists.intro); refine ⟨?rel, rfl⟩)
        | refine ⟨?rel, ?measure⟩
      case rel => exact ⟨c + 1, b2, q2, by omega, rfl, rfl, H⟩
      case measure => simp [intOf]; omega
    · obtain rfl : c = m := by omega
      have hlt : ¬ (c : Int) < (c : Int) := by omega
      have hf := Lib.hid (show hops.take c = hops by rw [HM.out, List.take_length])
      rw [hf.out] at H
      go_wp2_with fail
      go_ret
      exact ⟨b, q, rfl, H⟩
theorem neq_pkt {p : PktD} (hp : p.ok) (w : World) (o : Oper) (ρ : Operand → Value) (x y : Operand) (yt : TypeId) (ho : o.op = .binOp .neq 39 x y yt) (hx : ρ x = .agg p.cells.toArray) (hy : ρ y = .agg p.cells.toArray) : (execOp ρ o).run Tryd.prog w = .ok (.value (.bool false)) w := by
  rw [exec_neq_flat (m := 6) ho hx hy (by omega) (by kernel_rfl) (by kernel_rfl) flat_pkt (by kernel_rfl) (by kernel_rfl) (PktD.fits_cells hp) (PktD.fits_cells hp), eqB_refl]; rfl
theorem peel_bad0 {key : List (BitVec 8)} {p q : PktD} {s : SlotD} {e : Nat} (h : peelOf key p = (s, q, e)) (he : e ≠ 0) : q = PktD.zero := by
  unfold peelOf at h
  split at h
  · cases h; rfl
  · split at h
    · cases h; rfl
    · cases h; exact absurd rfl he
theorem info_mact2 : (Tryd.prog.info? 36).map (fun i => (i.zero, i.size, i.bytes)) = some (some (.agg (v8 (zs 16)).toArray), 16, 16) := by kernel_rfl
theorem size_mact2 : (Tryd.prog.info? 36).map (·.size) = some 16 := by kernel_rfl
theorem trip3 {α β γ : Type} (x : α × β × γ) : ∃ a b c, x = (a, b, c) := by
  obtain ⟨a, b, c⟩ := x
  exact ⟨a, b, c, rfl⟩
set_option maxRecDepth 10000 in
set_option maxHeartbeats 8000000 in
theorem onionTells_c {w0 w : World} {F : List SP} {v : Value} {hops : List HopO} {box : Nat} {body key : List (BitVec 8)} {p : PktD} (G : Glob w0) (H : At w0 F w) (hv : SeeL 54 hopC w0 F v hops) (hbox : box < 65536) (hb : body.length = 256) (hk : key.length = 32) (po : p.ok) :
    Calls Tryd.prog 7 #[v, .int .u16 (box : Int), .agg (v8 body).toArray, .agg (v8 key).toArray, .agg p.cells.toArray] w fun r w' => r = .returned (.bool true) ∧ At w0 F w' := by
  obtain ⟨a, cap, rfl, hcap, _⟩ := hv.slice
  obtain ⟨n, hn⟩ : ∃ n, n = hops.length := ⟨_, rfl⟩
  rw [← hn] at hv ⊢
  obtain ⟨m, hm⟩ : ∃ m, m = min n 6 := ⟨_, rfl⟩
  have hmin : (if (6 : Int) < (n : Int) then (6 : Int) else (n : Int)) = (m : Int) := by split <;> omega
  have hmin2 : (if (n : Int) < (6 : Int) then (n : Int) else (6 : Int)) = (m : Int) := by split <;> omega
  obtain ⟨cv, hcv, hrun⟩ := hv.upto el_hop under_hops' elem_hops (k := m) (by omega)
  obtain ⟨L, hL⟩ : ∃ L, L = hops.take m := ⟨_, rfl⟩
  have hLm := Lib.hid (show m = L.length by rw [hL, List.length_take]; omega)
  have hm6 := Lib.hid (show m ≤ 6 by omega)
  rw [← hL] at hcv
  have HCV := Lib.hid hcv
  have HRUN := Lib.hid hrun
  have HB := Lib.hid hb
  have HK := Lib.hid hk
  have PO := Lib.hid po
  have HX := Lib.hid hbox
  have hpl := Lib.hid (PktD.cells_length po)
  obtain ⟨R, hR⟩ : ∃ R, R = buildOf (L.map (·.1)) box body := ⟨_, rfl⟩
  obtain ⟨pa, hpa⟩ : ∃ q, q = BldP R := ⟨_, rfl⟩
  have HR := Lib.hid hR
  have HPA := Lib.hid hpa
  have AO := Lib.hid (show pa.ok by rw [hpa, hR]; exact bldP_ok hbox hb)
  have hal := Lib.hid (PktD.cells_length AO.out)
  have rpl := Lib.hid (show (rpB R).toArray.size = 6 by cases R <;> rfl)
  have rpo := Lib.hid (show ∀ u ∈ (rpB R).toArray.toList, u.oneCell' = true by
    cases R with
    | none => exact rpZ_one
    | some q => exact rpC_one q)
  clear hb hbox hk po hv hcv hrun hcap hn hm hL hR hpa
  go_enter Tryd.func7, Tryd.ntmps7
  go_wp2_with ((with_reducible refine wpList_op rfl ?_); intro _ hK; first
    | (refine dst_is 7 rfl ?_; refine wp_box_sl (v := .agg (v8 body).toArray) 24 _ rfl rfl H (fun B w' (H : At w0 (raw B (v8 body).toArray 24 :: F) w') _ => hK _ _ ?_))
    | (refine dst_is 8 rfl ?_; refine wp_box_sl (v := .agg (v8 key).toArray) 29 _ rfl rfl H (fun KB w' (H : At w0 (raw KB (v8 key).toArray 29 :: raw B (v8 body).toArray 24 :: F) w') _ => hK _ _ ?_))
    | (refine dst_is 9 rfl ?_; refine wp_box_sl (v := .agg p.cells.toArray) 39 _ rfl rfl H (fun PB w' (H : At w0 (raw PB p.cells.toArray 39 :: raw KB (v8 key).toArray 29 :: raw B (v8 body).toArray 24 :: F) w') _ => hK _ _ (Stop.go ?_))))
  refine Stop.un ?_
  go_wp2_with fail
  refine (shown_c G H).mono ?_; rintro e w' ⟨rfl, H⟩
  go_wp2_with ((with_reducible refine wpList_op rfl ?_); intro _ hK; first
    | (refine dst_is 30 rfl ?_; refine wp_slice 22 _ _ _ _ rfl (HRUN.out _) (hK _ _ (Stop.go ?_))))
  refine Stop.un ?_
  go_wp2_with ((with_reducible refine wpList_op rfl ?_); intro _ hK; first
    | (refine dst_is 34 rfl ?_; refine wp_lda 24 _ rfl (b := B) (bs := body) rfl (by kernel_rfl) (by rw [HB.out]; exact size_a256) 2 H rfl (hK _ _ (Stop.go ?_))))
  refine Stop.un ?_
  go_wp2_with fail
  refine (build_c (hops := L) G H (((HCV.out.more _).more _).more _) HB.out HX.out).mono ?_; rintro e' w' ⟨rfl, H⟩
  rw [← HR.out, ← HPA.out]
  go_wp2_with ((with_reducible refine wpList_op rfl ?_); intro _ hK; first
    | (refine dst_is 12 rfl ?_; refine wp_alloc_sl 39 rfl info_pkt H (fun A w' (H : At w0 (raw A PktD.zero.cells.toArray 39 :: raw PB p.cells.toArray 39 :: raw KB (v8 key).toArray 29 :: raw B (v8 body).toArray 24 :: F) w') _ => hK _ _ ?_))
    | (refine sto_is 12 rfl ?_; refine wp_store_row_sl 39 _ _ rfl (b := A) (cells := pa.cells.toArray) rfl rfl (by rw [List.size_toArray, hal.out]; exact size_pkt) (by simpa using PktD.cells_one) 0 H rfl (by rw [List.size_toArray, List.size_toArray, hal.out]; rfl) (fun w' (H : At w0 (raw A pa.cells.toArray 39 :: raw PB p.cells.toArray 39 :: raw KB (v8 key).toArray 29 :: raw B (v8 body).toArray 24 :: F) w') => hK _ _ (Stop.go ?_))))
  refine Stop.un ?_
  go_upto_region 4 with fail
  go_cut [14, 15] from 38 to 47 (fun s1 s2 wr => ∃ Q, s1 = .pointer (some ⟨Q, 0, none⟩) ∧ s2 = .int .i64 (BldE R) ∧ At w0 (raw Q (rpB R).toArray 52 :: raw A pa.cells.toArray 39 :: raw PB p.cells.toArray 39 :: raw KB (v8 key).toArray 29 :: raw B (v8 body).toArray 24 :: F) wr)
  case first =>
    refine wpS_begin [] (raw A pa.cells.toArray 39 :: raw PB p.cells.toArray 39 :: raw KB (v8 key).toArray 29 :: raw B (v8 body).toArray 24 :: F) (.fr 0 (.fr 2 (.fr 3 (.tk 4 (.two 1 9 (.two 5 9 (.fr 6 (.fr 7 (.fr 8 (.nx 9 (.nx 10 (.nx 11 .nil)))))) (.nx 5 (.fr 6 (.fr 7 (.fr 8 (.nx 10 (.nx 11 .nil))))))) (.nx 1 (.nx 5 (.fr 6 (.fr 7 (.fr 8 (.nx 10 (.nx 11 .nil)))))))))))) rfl (by kernel_rfl) (by kernel_rfl) H ?_
    clear H
    intro ops hOps
    refine wpS_free hOps rfl (fun _ _ _ h => h) (yl_move rfl _ rfl) ?_
    simp only [nrm]
    refine wpS_free hOps rfl (fun _ _ _ h => h) (yl_move rfl _ rfl) ?_
    simp only [nrm]
    refine wpS_free hOps (v := ?vOp3821) rfl (fun _ _ _ h => h) (yl rfl ?yOp3821) ?_
    case yOp3821 => (intro w hw; go_simp; first | done | rfl)
    simp only [nrm]
    refine wpS_take hOps rfl (fun _ _ _ h => h) (by first | exact Imp.refl _ | exact (Imp.refl _).more _ | exact ((Imp.refl _).more _).more _ | exact seps_pick _ _ (by repeat (first | exact List.Sublist.refl _ | exact List.nil_sublist _ | apply List.Sublist.cons_cons | apply List.Sublist.cons))) (GY.of_yields (yl rfl (fun w hw => exec_str_of (bs := body) rfl under_bytesT under_u8T under_strT rfl hw (see_blk 3 rfl HB.out.symm)))) ?_
    simp only [nrm]
    refine wpS_two hOps rfl rfl rfl rfl ?_ ?_
    all_goals intro w H K hK
    · refine wp_call _ _ _ rfl Tryd.func15 rfl (by kernel_rfl) ?_
      simp only [List.map_toArray, List.map_cons, List.map_nil, nrm]
      refine (lref_c H (HCV.out.weak (by repeat (first | exact List.Sublist.refl _ | apply List.Sublist.cons))) (by rw [← hLm.out]; exact hm6.out)).mono ?_; rintro e' w' ⟨ra, rq, rfl, H⟩
      refine hK _ _ _ (.inr (.inl (by first | exact Imp.refl _ | exact (Imp.refl _).more _ | exact ((Imp.refl _).more _).more _ | exact seps_pick _ _ (by repeat (first | exact List.Sublist.refl _ | exact List.nil_sublist _ | apply List.Sublist.cons_cons | apply List.Sublist.cons))))) H ?_
      clear hK K H
      try simp only [nrm]
      refine wpS_two hOps rfl rfl rfl rfl ?_ ?_
      all_goals intro w H K hK
      · refine wp_call _ _ _ rfl Tryd.func14 rfl (by kernel_rfl) ?_
        simp only [List.map_toArray, List.map_cons, List.map_nil, nrm]
        refine (RBuild_c (hops := L) H (by first | exact see_own el_rhop H 0 rfl rfl | exact see_own el_rhop H 1 rfl rfl) HB.out HX.out).mono ?_; rintro e' w' ⟨rfl, H⟩
        rw [← HR.out]
        refine hK _ _ _ (.inr (.inl (by first | exact Imp.refl _ | exact (Imp.refl _).more _ | exact ((Imp.refl _).more _).more _ | exact seps_pick _ _ (by repeat (first | exact List.Sublist.refl _ | exact List.nil_sublist _ | apply List.Sublist.cons_cons | apply List.Sublist.cons))))) H ?_
        clear hK K H
        try simp only [nrm]
        refine wpS_free hOps rfl (fun _ _ _ h => h) (yl_move rfl _ rfl) ?_
        simp only [nrm]
        refine wpS_free hOps (v := ?vOp3832) rfl (fun _ _ _ h => h) (yl rfl ?yOp3832) ?_
        case yOp3832 => (intro w hw; go_simp; first | done | rfl)
        simp only [nrm]
        refine wpS_free hOps (v := ?vOp3834) rfl (fun _ _ _ h => h) (yl rfl ?yOp3834) ?_
        case yOp3834 => (intro w hw; go_simp; first | done | rfl)
        simp only [nrm]
        refine wpS_next hOps rfl rfl ?_
        intro w H K hK
        refine wp_alloc_sl 52 rfl rp_info H (fun Q w' H _ => ?_)
        refine hK _ _ _ (.inr (.inl ((Imp.refl _).more _))) H ?_
        clear hK K H
        try simp only [nrm]
        refine wpS_next hOps rfl rfl ?_
        intro w H K hK
        first
          | (refine wp_store_row_sl 52 _ _ rfl (b := Q) (cells := (rpB R).toArray) rfl rfl (by rw [rpl.out]; exact rp_size) rpo.out 0 H rfl (by rw [rpl.out]; rfl) (fun w' H => ?_); replace H : At w0 (raw Q (rpB R).toArray 52 :: raw A pa.cells.toArray 39 :: raw PB p.cells.toArray 39 :: raw KB (v8 key).toArray 29 :: raw B (v8 body).toArray 24 :: F) w' := H.maskR [true, false])
          | (refine wp_store_row_sl 52 _ _ rfl (b := Q) (cells := (rpB R).toArray) rfl rfl (by rw [rpl.out]; exact rp_size) rpo.out 1 H rfl (by rw [rpl.out]; rfl) (fun w' H => ?_); replace H : At w0 (raw Q (rpB R).toArray 52 :: raw A pa.cells.toArray 39 :: raw PB p.cells.toArray 39 :: raw KB (v8 key).toArray 29 :: raw B (v8 body).toArray 24 :: F) w' := H.maskR [false, true])
        refine hK _ _ _ (.inr (.inr (by first | exact Imp.refl _ | exact (Imp.refl _).more _ | exact ((Imp.refl _).more _).more _ | exact seps_pick _ _ (by repeat (first | exact List.Sublist.refl _ | exact List.nil_sublist _ | apply List.Sublist.cons_cons | apply List.Sublist.cons))))) H ?_
        clear hK K H
        try simp only [nrm]
        refine wpS_next hOps rfl rfl ?_
        intro w H K hK
        refine wp_run rfl ?_
        refine hK _ _ _ (.inr (.inl (Imp.refl _))) H ?_
        clear hK K H
        try simp only [nrm]
        refine wpS_end (fun w H => ?_)
        clear hOps ops
        go_wp2_with fail
        go_meet
        case rel => exact ⟨_, rfl, rfl, H⟩
      · refine wp_alloc_sl 52 rfl rp_info H (fun Q w' H _ => ?_)
        refine hK _ _ _ (.inr (.inl ((Imp.refl _).more _))) H ?_
        clear hK K H
        try simp only [nrm]
        refine wpS_next hOps rfl rfl ?_
        intro w H K hK
        refine wp_call _ _ _ rfl Tryd.func14 rfl (by kernel_rfl) ?_
        simp only [List.map_toArray, List.map_cons, List.map_nil, nrm]
        refine (RBuild_c (hops := L) H (by first | exact see_own el_rhop H 0 rfl rfl | exact see_own el_rhop H 1 rfl rfl) HB.out HX.out).mono ?_; rintro e' w' ⟨rfl, H⟩
        rw [← HR.out]
        refine hK _ _ _ (.inr (.inl (by first | exact Imp.refl _ | exact (Imp.refl _).more _ | exact ((Imp.refl _).more _).more _ | exact seps_pick _ _ (by repeat (first | exact List.Sublist.refl _ | exact List.nil_sublist _ | apply List.Sublist.cons_cons | apply List.Sublist.cons))))) H ?_
        clear hK K H
        try simp only [nrm]
        refine wpS_free hOps rfl (fun _ _ _ h => h) (yl_move rfl _ rfl) ?_
        simp only [nrm]
        refine wpS_free hOps (v := ?vOp3850) rfl (fun _ _ _ h => h) (yl rfl ?yOp3850) ?_
        case yOp3850 => (intro w hw; go_simp; first | done | rfl)
        simp only [nrm]
        refine wpS_free hOps (v := ?vOp3852) rfl (fun _ _ _ h => h) (yl rfl ?yOp3852) ?_
        case yOp3852 => (intro w hw; go_simp; first | done | rfl)
        simp only [nrm]
        refine wpS_next hOps rfl rfl ?_
        intro w H K hK
        first
          | (refine wp_store_row_sl 52 _ _ rfl (b := Q) (cells := (rpB R).toArray) rfl rfl (by rw [rpl.out]; exact rp_size) rpo.out 0 H rfl (by rw [rpl.out]; rfl) (fun w' H => ?_); replace H : At w0 (raw Q (rpB R).toArray 52 :: raw A pa.cells.toArray 39 :: raw PB p.cells.toArray 39 :: raw KB (v8 key).toArray 29 :: raw B (v8 body).toArray 24 :: F) w' := H.maskR [true, false])
          | (refine wp_store_row_sl 52 _ _ rfl (b := Q) (cells := (rpB R).toArray) rfl rfl (by rw [rpl.out]; exact rp_size) rpo.out 1 H rfl (by rw [rpl.out]; rfl) (fun w' H => ?_); replace H : At w0 (raw Q (rpB R).toArray 52 :: raw A pa.cells.toArray 39 :: raw PB p.cells.toArray 39 :: raw KB (v8 key).toArray 29 :: raw B (v8 body).toArray 24 :: F) w' := H.maskR [false, true])
        refine hK _ _ _ (.inr (.inr (by first | exact Imp.refl _ | exact (Imp.refl _).more _ | exact ((Imp.refl _).more _).more _ | exact seps_pick _ _ (by repeat (first | exact List.Sublist.refl _ | exact List.nil_sublist _ | apply List.Sublist.cons_cons | apply List.Sublist.cons))))) H ?_
        clear hK K H
        try simp only [nrm]
        refine wpS_next hOps rfl rfl ?_
        intro w H K hK
        refine wp_run rfl ?_
        refine hK _ _ _ (.inr (.inl (Imp.refl _))) H ?_
        clear hK K H
        try simp only [nrm]
        refine wpS_end (fun w H => ?_)
        clear hOps ops
        go_wp2_with fail
        go_meet
        case rel => exact ⟨_, rfl, rfl, H⟩
    · refine wp_alloc_sl 52 rfl rp_info H (fun Q w' H _ => ?_)
      refine hK _ _ _ (.inr (.inl ((Imp.refl _).more _))) H ?_
      clear hK K H
      try simp only [nrm]
      refine wpS_next hOps rfl rfl ?_
      intro w H K hK
      refine wp_call _ _ _ rfl Tryd.func15 rfl (by kernel_rfl) ?_
      simp only [List.map_toArray, List.map_cons, List.map_nil, nrm]
      refine (lref_c H (HCV.out.weak (by repeat (first | exact List.Sublist.refl _ | apply List.Sublist.cons))) (by rw [← hLm.out]; exact hm6.out)).mono ?_; rintro e' w' ⟨ra, rq, rfl, H⟩
      refine hK _ _ _ (.inr (.inl (by first | exact Imp.refl _ | exact (Imp.refl _).more _ | exact ((Imp.refl _).more _).more _ | exact seps_pick _ _ (by repeat (first | exact List.Sublist.refl _ | exact List.nil_sublist _ | apply List.Sublist.cons_cons | apply List.Sublist.cons))))) H ?_
      clear hK K H
      try simp only [nrm]
      refine wpS_next hOps rfl rfl ?_
      intro w H K hK
      refine wp_call _ _ _ rfl Tryd.func14 rfl (by kernel_rfl) ?_
      simp only [List.map_toArray, List.map_cons, List.map_nil, nrm]
      refine (RBuild_c (hops := L) H (by first | exact see_own el_rhop H 0 rfl rfl | exact see_own el_rhop H 1 rfl rfl) HB.out HX.out).mono ?_; rintro e' w' ⟨rfl, H⟩
      rw [← HR.out]
      refine hK _ _ _ (.inr (.inl (by first | exact Imp.refl _ | exact (Imp.refl _).more _ | exact ((Imp.refl _).more _).more _ | exact seps_pick _ _ (by repeat (first | exact List.Sublist.refl _ | exact List.nil_sublist _ | apply List.Sublist.cons_cons | apply List.Sublist.cons))))) H ?_
      clear hK K H
      try simp only [nrm]
      refine wpS_free hOps rfl (fun _ _ _ h => h) (yl_move rfl _ rfl) ?_
      simp only [nrm]
      refine wpS_free hOps (v := ?vOp3867) rfl (fun _ _ _ h => h) (yl rfl ?yOp3867) ?_
      case yOp3867 => (intro w hw; go_simp; first | done | rfl)
      simp only [nrm]
      refine wpS_free hOps (v := ?vOp3869) rfl (fun _ _ _ h => h) (yl rfl ?yOp3869) ?_
      case yOp3869 => (intro w hw; go_simp; first | done | rfl)
      simp only [nrm]
      refine wpS_next hOps rfl rfl ?_
      intro w H K hK
      first
        | (refine wp_store_row_sl 52 _ _ rfl (b := Q) (cells := (rpB R).toArray) rfl rfl (by rw [rpl.out]; exact rp_size) rpo.out 0 H rfl (by rw [rpl.out]; rfl) (fun w' H => ?_); replace H : At w0 (raw Q (rpB R).toArray 52 :: raw A pa.cells.toArray 39 :: raw PB p.cells.toArray 39 :: raw KB (v8 key).toArray 29 :: raw B (v8 body).toArray 24 :: F) w' := H.maskR [true, false])
        | (refine wp_store_row_sl 52 _ _ rfl (b := Q) (cells := (rpB R).toArray) rfl rfl (by rw [rpl.out]; exact rp_size) rpo.out 1 H rfl (by rw [rpl.out]; rfl) (fun w' H => ?_); replace H : At w0 (raw Q (rpB R).toArray 52 :: raw A pa.cells.toArray 39 :: raw PB p.cells.toArray 39 :: raw KB (v8 key).toArray 29 :: raw B (v8 body).toArray 24 :: F) w' := H.maskR [false, true])
      refine hK _ _ _ (.inr (.inr (by first | exact Imp.refl _ | exact (Imp.refl _).more _ | exact ((Imp.refl _).more _).more _ | exact seps_pick _ _ (by repeat (first | exact List.Sublist.refl _ | exact List.nil_sublist _ | apply List.Sublist.cons_cons | apply List.Sublist.cons))))) H ?_
      clear hK K H
      try simp only [nrm]
      refine wpS_next hOps rfl rfl ?_
      intro w H K hK
      refine wp_run rfl ?_
      refine hK _ _ _ (.inr (.inl (Imp.refl _))) H ?_
      clear hK K H
      try simp only [nrm]
      refine wpS_end (fun w H => ?_)
      clear hOps ops
      go_wp2_with fail
      go_meet
      case rel => exact ⟨_, rfl, rfl, H⟩
  case rest =>
    obtain ⟨Q, rfl, rfl, H⟩ := hcut
    go_upto_region 5 with fail
    go_cut [68] from 47 to 68 (fun c wr => c = .bool false ∧ At w0 (raw PB p.cells.toArray 39 :: raw KB (v8 key).toArray 29 :: raw B (v8 body).toArray 24 :: F) wr)
    case first =>
      clear rpl rpo HR
      cases R with
      | none =>
        obtain rfl : pa = PktD.zero := HPA.out
        rw [show BldE none = 1 from rfl]
        replace H : At w0 (raw Q rpZ.toArray 52 :: raw A PktD.zero.cells.toArray 39 :: raw PB p.cells.toArray 39 :: raw KB (v8 key).toArray 29 :: raw B (v8 body).toArray 24 :: F) _ := H
        refine wpS_begin [] (raw Q rpZ.toArray 52 :: raw A PktD.zero.cells.toArray 39 :: raw PB p.cells.toArray 39 :: raw KB (v8 key).toArray 29 :: raw B (v8 body).toArray 24 :: F) (.fr 0 (.fr 1 (.fr 2 (.fr 3 (.fr 4 (.fr 5 (.fr 6 (.fr 7 (.fr 8 (.fr 9 (.fr 10 (.fr 11 (.fr 12 (.fr 13 (.fr 14 (.fr 15 (.fr 16 (.tk 17 (.fr 18 (.fr 19 (.fr 20 (.fr 21 .nil)))))))))))))))))))))) rfl (by kernel_rfl) (by kernel_rfl) H ?_
        clear H
        intro ops hOps
        refine wpS_free hOps rfl (fun _ _ _ h => h) (yl_move rfl _ rfl) ?_
        simp only [nrm]
        refine wpS_free hOps rfl (fun _ _ _ h => h) (yl_move rfl _ rfl) ?_
        simp only [nrm]
        refine wpS_free hOps (v := ?vOp3882) rfl (fun _ _ _ h => h) (yl rfl ?yOp3882) ?_
        case yOp3882 => (intro w hw; go_simp; first | done | rfl)
        simp only [nrm]
        refine wpS_free hOps rfl (fun _ _ _ h => h) (yl_move rfl _ rfl) ?_
        simp only [nrm]
        refine wpS_free hOps rfl (fun _ _ _ h => h) (yl_move rfl _ rfl) ?_
        simp only [nrm]
        refine wpS_free hOps (v := ?vOp3890) rfl (fun _ _ _ h => h) (yl rfl ?yOp3890) ?_
        case yOp3890 => (intro w hw; go_simp; first | done | rfl)
        simp only [nrm]
        refine wpS_free hOps rfl (fun _ _ _ h => h) (yl_move rfl _ rfl) ?_
        simp only [nrm]
        refine wpS_free hOps rfl (fun _ _ _ h => h) (yn rfl) ?_
        simp only [nrm]
        refine wpS_free hOps rfl (fun _ _ _ h => h) (yn rfl) ?_
        simp only [nrm]
        refine wpS_free hOps rfl (fun _ _ _ h => h) (yn rfl) ?_
        simp only [nrm]
        refine wpS_free hOps rfl (fun _ _ _ h => h) (yn rfl) ?_
        simp only [nrm]
        refine wpS_free hOps (v := ?vOp3903) rfl (fun _ _ _ h => h) (yl rfl ?yOp3903) ?_
        case yOp3903 => (intro w hw; go_simp; first | done | rfl)
        simp only [nrm]
        refine wpS_free hOps (v := ?vOp3905) rfl (fun _ _ _ h => h) (yl rfl ?yOp3905) ?_
        case yOp3905 => (intro w hw; go_simp; first | done | rfl)
        simp only [nrm]
        refine wpS_free hOps rfl (fun _ _ _ h => h) (yl_move rfl _ rfl) ?_
        simp only [nrm]
        refine wpS_free hOps rfl (fun _ _ _ h => h) (yl_move rfl _ rfl) ?_
        simp only [nrm]
        refine wpS_free hOps (v := ?vOp3913) rfl (fun _ _ _ h => h) (yl rfl ?yOp3913) ?_
        case yOp3913 => (intro w hw; go_simp; first | done | rfl)
        simp only [nrm]
        refine wpS_free hOps rfl (fun _ _ _ h => h) (yl_move rfl _ rfl) ?_
        simp only [nrm]
        refine wpS_take hOps rfl (fun _ _ _ h => h) (by first | exact Imp.refl _ | exact (Imp.refl _).more _ | exact ((Imp.refl _).more _).more _ | exact seps_pick _ _ (by repeat (first | exact List.Sublist.refl _ | exact List.nil_sublist _ | apply List.Sublist.cons_cons | apply List.Sublist.cons))) (GY.of_yields (yl_mid rfl 39 _ rfl (b := A) (off := 0) rfl PktD.zero.cells (by kernel_rfl) size_pkt (fun w hw => at_blk hw 1 rfl))) ?_
        simp only [nrm]
        refine wpS_free hOps rfl (fun _ _ _ h => h) (Hg.yl_build rfl 39 _ rfl (by rw [Array.toList_map]; rfl) (run_buildL places_pkt [] rfl)) ?_
        simp only [nrm]
        refine wpS_free hOps rfl (fun _ _ _ h => h) (yl rfl (fun w _ => neq_pkt PktD.zero_ok w _ _ _ _ _ rfl rfl rfl)) ?_
        simp only [nrm]
        refine wpS_free hOps (v := ?vOp3924) rfl (fun _ _ _ h => h) (yl rfl ?yOp3924) ?_
        case yOp3924 => (intro w hw; go_simp; first | done | rfl)
        simp only [nrm]
        refine wpS_free hOps (v := ?vOp3926) rfl (fun _ _ _ h => h) (yl rfl ?yOp3926) ?_
        case yOp3926 => (intro w hw; go_simp; first | done | rfl)
        simp only [nrm]
        refine wpS_end (fun w H => ?_)
        clear hOps ops
        go_wp2_with fail
        go_meet
        case rel => exact ⟨rfl, H.maskR [false, false]⟩
      | some pp =>
        obtain rfl : pa = pp := HPA.out
        rw [show BldE (some pa) = 0 from rfl]
        replace H : At w0 (raw Q (rpC pa).toArray 52 :: raw A pa.cells.toArray 39 :: raw PB p.cells.toArray 39 :: raw KB (v8 key).toArray 29 :: raw B (v8 body).toArray 24 :: F) _ := H
        refine wpS_begin [] (raw Q (rpC pa).toArray 52 :: raw A pa.cells.toArray 39 :: raw PB p.cells.toArray 39 :: raw KB (v8 key).toArray 29 :: raw B (v8 body).toArray 24 :: F) (.fr 0 (.fr 1 (.fr 2 (.fr 3 (.fr 4 (.fr 5 (.fr 6 (.tk 7 (.fr 8 (.tk 9 (.fr 10 (.fr 11 (.fr 12 (.fr 13 (.fr 14 (.fr 15 (.fr 16 (.fr 17 (.fr 18 (.fr 19 (.fr 20 (.fr 21 .nil)))))))))))))))))))))) rfl (by kernel_rfl) (by kernel_rfl) H ?_
        clear H
        intro ops hOps
        refine wpS_free hOps rfl (fun _ _ _ h => h) (yl_move rfl _ rfl) ?_
        simp only [nrm]
        refine wpS_free hOps rfl (fun _ _ _ h => h) (yl_move rfl _ rfl) ?_
        simp only [nrm]
        refine wpS_free hOps (v := ?vOp3936) rfl (fun _ _ _ h => h) (yl rfl ?yOp3936) ?_
        case yOp3936 => (intro w hw; go_simp; first | done | rfl)
        simp only [nrm]
        refine wpS_free hOps rfl (fun _ _ _ h => h) (yl_move rfl _ rfl) ?_
        simp only [nrm]
        refine wpS_free hOps rfl (fun _ _ _ h => h) (yl_move rfl _ rfl) ?_
        simp only [nrm]
        refine wpS_free hOps (v := ?vOp3944) rfl (fun _ _ _ h => h) (yl rfl ?yOp3944) ?_
        case yOp3944 => (intro w hw; go_simp; first | done | rfl)
        simp only [nrm]
        refine wpS_free hOps rfl (fun _ _ _ h => h) (yl_move rfl _ rfl) ?_
        simp only [nrm]
        refine wpS_take hOps rfl (fun _ _ _ h => h) (by first | exact Imp.refl _ | exact (Imp.refl _).more _ | exact ((Imp.refl _).more _).more _ | exact seps_pick _ _ (by repeat (first | exact List.Sublist.refl _ | exact List.nil_sublist _ | apply List.Sublist.cons_cons | apply List.Sublist.cons))) (GY.of_yields (yl_mid rfl 39 _ rfl (b := A) (off := 0) rfl pa.cells (by kernel_rfl) (by rw [hal.out]; exact size_pkt) (fun w hw => at_blk hw 1 rfl))) ?_
        simp only [nrm]
        refine wpS_fcall hOps (v := ?vOp3951) rfl (fun _ _ _ h => h) (GY.call rfl _ _ _ rfl Tryd.func13 rfl (by kernel_rfl) ?yOp3951) ?_
        case yOp3951 =>
          intro L w f H
          simp only [List.map_toArray, List.map_cons, List.map_nil, nrm]
          exact (ROf_c H AO.out)
        simp only [nrm]
        refine wpS_take hOps rfl (fun _ _ _ h => h) (by first | exact Imp.refl _ | exact (Imp.refl _).more _ | exact ((Imp.refl _).more _).more _ | exact seps_pick _ _ (by repeat (first | exact List.Sublist.refl _ | exact List.nil_sublist _ | apply List.Sublist.cons_cons | apply List.Sublist.cons))) (GY.of_yields (yl_mid rfl 52 _ rfl (b := Q) (off := 0) rfl (rpC pa) (by kernel_rfl) rp_size (fun w hw => at_blk hw 0 rfl))) ?_
        simp only [nrm]
        refine wpS_free hOps rfl (fun _ _ _ h => h) (yl rfl (fun w _ => neq_rp pa w _ _ _ _ _ rfl rfl rfl)) ?_
        simp only [nrm]
        refine wpS_free hOps (v := ?vOp3957) rfl (fun _ _ _ h => h) (yl rfl ?yOp3957) ?_
        case yOp3957 => (intro w hw; go_simp; first | done | rfl)
        simp only [nrm]
        refine wpS_free hOps (v := ?vOp3959) rfl (fun _ _ _ h => h) (yl rfl ?yOp3959) ?_
        case yOp3959 => (intro w hw; go_simp; first | done | rfl)
        simp only [nrm]
        refine wpS_free hOps rfl (fun _ _ _ h => h) (yl_move rfl _ rfl) ?_
        simp only [nrm]
        refine wpS_free hOps rfl (fun _ _ _ h => h) (yl_move rfl _ rfl) ?_
        simp only [nrm]
        refine wpS_free hOps (v := ?vOp3967) rfl (fun _ _ _ h => h) (yl rfl ?yOp3967) ?_
        case yOp3967 => (intro w hw; go_simp; first | done | rfl)
        simp only [nrm]
        refine wpS_free hOps rfl (fun _ _ _ h => h) (yl_move rfl _ rfl) ?_
        simp only [nrm]
        refine wpS_free hOps rfl (fun _ _ _ h => h) (yn rfl) ?_
        simp only [nrm]
        refine wpS_free hOps rfl (fun _ _ _ h => h) (yn rfl) ?_
        simp only [nrm]
        refine wpS_free hOps rfl (fun _ _ _ h => h) (yn rfl) ?_
        simp only [nrm]
        refine wpS_free hOps (v := ?vOp3978) rfl (fun _ _ _ h => h) (yl rfl ?yOp3978) ?_
        case yOp3978 => (intro w hw; go_simp; first | done | rfl)
        simp only [nrm]
        refine wpS_free hOps (v := ?vOp3980) rfl (fun _ _ _ h => h) (yl rfl ?yOp3980) ?_
        case yOp3980 => (intro w hw; go_simp; first | done | rfl)
        simp only [nrm]
        refine wpS_end (fun w H => ?_)
        clear hOps ops
        go_wp2_with fail
        go_meet
        case rel => exact ⟨rfl, H.maskR [false, false]⟩
    case rest =>
      obtain ⟨rfl, H⟩ := hcut
      clear rpl rpo HPA HR
      go_wp2_with ((with_reducible refine wpList_op rfl ?_); intro _ hK; first
        | (refine dst_is 69 rfl ?_; refine wp_mid 39 _ rfl rfl p.cells (by kernel_rfl) (by rw [hpl.out]; exact size_pkt) (at_blk H 0 rfl) (hK _ _ (Stop.go ?_))))
      refine Stop.un ?_
      go_wp2_with fail
      refine (ROf_c H PO.out).mono ?_; rintro e w' ⟨rfl, H⟩
      go_wp2_with ((with_reducible refine wpList_op rfl ?_); intro _ hK; first
        | (refine dst_is 16 rfl ?_; refine wp_alloc_sl 52 rfl rp_info H (fun Q w' (H : At w0 (raw Q rpZ.toArray 52 :: raw PB p.cells.toArray 39 :: raw KB (v8 key).toArray 29 :: raw B (v8 body).toArray 24 :: F) w') _ => hK _ _ ?_))
        | (refine sto_is 16 rfl ?_; refine wp_store_row_sl 52 _ _ rfl (b := Q) (cells := (rpC p).toArray) rfl rfl rp_size (rpC_one p) 0 H rfl rfl (fun w' (H : At w0 (raw Q (rpC p).toArray 52 :: raw PB p.cells.toArray 39 :: raw KB (v8 key).toArray 29 :: raw B (v8 body).toArray 24 :: F) w') => hK _ _ (Stop.go ?_))))
      refine Stop.un ?_
      obtain ⟨s, q, e, hpe⟩ := trip3 (peelOf key p)
      have sr := peel_ok PO.out hpe
      have SO := Lib.hid sr.1
      have QO := Lib.hid sr.2
      have hsl := Lib.hid (SlotD.cells_length sr.1.nonce sr.1.mac)
      have hql := Lib.hid (PktD.cells_length sr.2)
      have HPE := Lib.hid hpe
      have HE0 := Lib.hid (fun h : e ≠ 0 => peel_bad0 hpe h)
      obtain ⟨E, hE⟩ : ∃ E : Int, (e : Int) = E := ⟨_, rfl⟩
      have HE := Lib.hid hE
      obtain ⟨RE, hRE⟩ : ∃ RE, RE = rpE e q := ⟨_, rfl⟩
      have HRE := Lib.hid hRE
      have rel := Lib.hid (show RE.toArray.size = 6 by rw [hRE]; unfold rpE; split <;> rfl)
      have reo := Lib.hid (show ∀ u ∈ RE.toArray.toList, u.oneCell' = true by rw [hRE]; unfold rpE; split; exact rpC_one q; exact rpZ_one)
      clear sr hpe hE hRE
      go_wp2_with ((with_reducible refine wpList_op rfl ?_); intro _ hK; first
        | (refine dst_is 72 rfl ?_; refine wp_lda 29 _ rfl (b := KB) (bs := key) rfl (by kernel_rfl) (by rw [HK.out]; exact size_key) 2 H rfl (hK _ _ ?_))
        | (refine dst_is 73 rfl ?_; refine wp_mid 39 _ rfl rfl p.cells (by kernel_rfl) (by rw [hpl.out]; exact size_pkt) (at_blk H 1 rfl) (hK _ _ (Stop.go ?_))))
      refine Stop.un ?_
      go_wp2_with fail
      have hcall := peel_c G H HK.out PO.out
      rw [HPE.out] at hcall
      refine hcall.mono ?_; rintro e' w' ⟨rfl, H⟩
      clear hcall
      rw [HE.out]
      go_wp2_with ((with_reducible refine wpList_op rfl ?_); intro _ hK; first
        | (refine dst_is 17 rfl ?_; refine wp_alloc_sl 45 rfl info_slot H (fun S w' (H : At w0 (raw S SlotD.zero.cells.toArray 45 :: raw Q (rpC p).toArray 52 :: raw PB p.cells.toArray 39 :: raw KB (v8 key).toArray 29 :: raw B (v8 body).toArray 24 :: F) w') _ => hK _ _ ?_))
        | (refine dst_is 18 rfl ?_; refine wp_alloc_sl 39 rfl info_pkt H (fun X w' (H : At w0 (raw X PktD.zero.cells.toArray 39 :: raw S SlotD.zero.cells.toArray 45 :: raw Q (rpC p).toArray 52 :: raw PB p.cells.toArray 39 :: raw KB (v8 key).toArray 29 :: raw B (v8 body).toArray 24 :: F) w') _ => hK _ _ ?_))
        | (refine sto_is 17 rfl ?_; refine wp_store_row_sl 45 _ _ rfl (b := S) (cells := s.cells.toArray) rfl rfl (by rw [List.size_toArray, hsl.out]; exact size_slot) (by simpa using SlotD.cells_one) 1 H rfl (by rw [List.size_toArray, List.size_toArray, hsl.out]; rfl) (fun w' (H : At w0 (raw X PktD.zero.cells.toArray 39 :: raw S s.cells.toArray 45 :: raw Q (rpC p).toArray 52 :: raw PB p.cells.toArray 39 :: raw KB (v8 key).toArray 29 :: raw B (v8 body).toArray 24 :: F) w') => hK _ _ ?_))
        | (refine sto_is 18 rfl ?_; refine wp_store_row_sl 39 _ _ rfl (b := X) (cells := q.cells.toArray) rfl rfl (by rw [List.size_toArray, hql.out]; exact size_pkt) (by simpa using PktD.cells_one) 0 H rfl (by rw [List.size_toArray, List.size_toArray, hql.out]; rfl) (fun w' (H : At w0 (raw X q.cells.toArray 39 :: raw S s.cells.toArray 45 :: raw Q (rpC p).toArray 52 :: raw PB p.cells.toArray 39 :: raw KB (v8 key).toArray 29 :: raw B (v8 body).toArray 24 :: F) w') => hK _ _ (Stop.go ?_))))
      refine Stop.un ?_
      go_wp2_with fail
      refine wpS_begin [] (raw X q.cells.toArray 39 :: raw S s.cells.toArray 45 :: raw Q (rpC p).toArray 52 :: raw PB p.cells.toArray 39 :: raw KB (v8 key).toArray 29 :: raw B (v8 body).toArray 24 :: F) (.fr 0 (.tk 1 (.tk 2 (.fr 3 (.fr 4 (.fr 5 (.fr 6 (.fr 7 (.al 8 9 (.nx 10 (.nx 11 (.nx 12 .nil)))))))))))) rfl (by kernel_rfl) (by kernel_rfl) H ?_
      clear H
      intro ops hOps
      refine wpS_free hOps (v := ?vOp3984) rfl (fun _ _ _ h => h) (yl rfl ?yOp3984) ?_
      case yOp3984 => (intro w hw; go_simp; first | done | rfl)
      simp only [nrm]
      refine wpS_take hOps rfl (fun _ _ _ h => h) (by first | exact Imp.refl _ | exact (Imp.refl _).more _ | exact ((Imp.refl _).more _).more _ | exact seps_pick _ _ (by repeat (first | exact List.Sublist.refl _ | exact List.nil_sublist _ | apply List.Sublist.cons_cons | apply List.Sublist.cons))) (GY.of_yields (yl rfl (fun w hw => exec_str_of (bs := key) rfl under_bytesT under_u8T under_strT rfl hw (see_blk 4 rfl HK.out.symm)))) ?_
      simp only [nrm]
      refine wpS_take hOps rfl (fun _ _ _ h => h) (by first | exact Imp.refl _ | exact (Imp.refl _).more _ | exact ((Imp.refl _).more _).more _ | exact seps_pick _ _ (by repeat (first | exact List.Sublist.refl _ | exact List.nil_sublist _ | apply List.Sublist.cons_cons | apply List.Sublist.cons))) (GY.of_yields (yl_mid rfl 52 _ rfl (b := Q) (off := 0) rfl (rpC p) (by kernel_rfl) rp_size (fun w hw => at_blk hw 2 rfl))) ?_
      simp only [nrm]
      refine wpS_fcall hOps (v := ?vOp3990) rfl (fun _ _ _ h => h) (GY.call rfl _ _ _ rfl Tryd.func16 rfl (by kernel_rfl) ?yOp3990) ?_
      case yOp3990 =>
        intro L w f H
        simp only [List.map_toArray, List.map_cons, List.map_nil, nrm]
        exact (by have h := RPeel_c (key := key) H (by rw [HK.out]; omega) PO.out; rw [HPE.out] at h; simp only [HE.out, ← HRE.out] at h; exact h)
      simp only [nrm]
      refine wpS_free hOps rfl (fun _ _ _ h => h) (yl_move rfl _ rfl) ?_
      simp only [nrm]
      refine wpS_free hOps (v := ?vOp3995) rfl (fun _ _ _ h => h) (yl rfl ?yOp3995) ?_
      case yOp3995 => (intro w hw; go_simp; first | done | rfl)
      simp only [nrm]
      refine wpS_free hOps (v := ?vOp3997) rfl (fun _ _ _ h => h) (yl rfl ?yOp3997) ?_
      case yOp3997 => (intro w hw; go_simp; first | done | rfl)
      simp only [nrm]
      refine wpS_free hOps (v := ?vOp3999) rfl (fun _ _ _ h => h) (yl rfl ?yOp3999) ?_
      case yOp3999 => (intro w hw; go_simp; first | done | rfl)
      simp only [nrm]
      refine wpS_allocs hOps rfl rfl rfl rfl 45 52 rfl rfl info_slot rp_info (by intro d h1 h2; cases h1; cases h2) ?_
      intro S2 Y2
      simp only [nrm]
      refine wpS_next hOps rfl rfl ?_
      intro w H K hK
      refine wp_store_row_sl 45 _ _ rfl (b := S2) (cells := s.cells.toArray) rfl rfl (by rw [List.size_toArray, hsl.out]; exact size_slot) (by simpa using SlotD.cells_one) 1 H rfl (by show SlotD.zero.cells.toArray.size = _; rw [List.size_toArray, List.size_toArray, hsl.out]; rfl) (fun w' H => ?_)
      replace H : At w0 (raw Y2 rpZ.toArray 52 :: raw S2 s.cells.toArray 45 :: raw X q.cells.toArray 39 :: raw S s.cells.toArray 45 :: raw Q (rpC p).toArray 52 :: raw PB p.cells.toArray 39 :: raw KB (v8 key).toArray 29 :: raw B (v8 body).toArray 24 :: F) w' := H
      refine hK _ _ _ (.inr (.inr (by first | exact Imp.refl _ | exact (Imp.refl _).more _ | exact ((Imp.refl _).more _).more _ | exact seps_pick _ _ (by repeat (first | exact List.Sublist.refl _ | exact List.nil_sublist _ | apply List.Sublist.cons_cons | apply List.Sublist.cons))))) H ?_
      clear hK K H
      try simp only [nrm]
      refine wpS_next hOps rfl rfl ?_
      intro w H K hK
      refine wp_store_row_sl 52 _ _ rfl (b := Y2) (cells := RE.toArray) rfl rfl (by rw [rel.out]; exact rp_size) reo.out 0 H rfl (by rw [rel.out]; rfl) (fun w' H => ?_)
      replace H : At w0 (raw Y2 RE.toArray 52 :: raw S2 s.cells.toArray 45 :: raw X q.cells.toArray 39 :: raw S s.cells.toArray 45 :: raw Q (rpC p).toArray 52 :: raw PB p.cells.toArray 39 :: raw KB (v8 key).toArray 29 :: raw B (v8 body).toArray 24 :: F) w' := H
      refine hK _ _ _ (.inr (.inr (by first | exact Imp.refl _ | exact (Imp.refl _).more _ | exact ((Imp.refl _).more _).more _ | exact seps_pick _ _ (by repeat (first | exact List.Sublist.refl _ | exact List.nil_sublist _ | apply List.Sublist.cons_cons | apply List.Sublist.cons))))) H ?_
      clear hK K H
      try simp only [nrm]
      refine wpS_next hOps rfl rfl ?_
      intro w H K hK
      refine wp_run rfl ?_
      refine hK _ _ _ (.inr (.inl (Imp.refl _))) H ?_
      clear hK K H
      try simp only [nrm]
      refine wpS_end (fun w H => ?_)
      clear hOps ops
      go_upto_region 10 with fail
      go_cut [112] from 86 to 112 (fun c wr => c = .bool false ∧ At w0 (raw Q (rpC p).toArray 52 :: raw PB p.cells.toArray 39 :: raw KB (v8 key).toArray 29 :: raw B (v8 body).toArray 24 :: F) wr)
      case first =>
        by_cases he : e = 0
        · subst he
          obtain rfl : RE = rpC q := HRE.out
          obtain rfl : E = 0 := HE.out.symm
          refine wpS_begin [] (raw Y2 (rpC q).toArray 52 :: raw S2 s.cells.toArray 45 :: raw X q.cells.toArray 39 :: raw S s.cells.toArray 45 :: raw Q (rpC p).toArray 52 :: raw PB p.cells.toArray 39 :: raw KB (v8 key).toArray 29 :: raw B (v8 body).toArray 24 :: F) (.fr 0 (.fr 1 (.fr 2 (.fr 3 (.tk 4 (.tk 5 (.fr 6 (.fr 7 (.fr 8 (.fr 9 (.fr 10 (.fr 11 (.tk 12 (.fr 13 (.tk 14 (.fr 15 (.fr 16 (.fr 17 (.fr 18 (.fr 19 (.fr 20 (.fr 21 (.fr 22 (.fr 23 (.fr 24 (.fr 25 (.fr 26 .nil))))))))))))))))))))))))))) rfl (by kernel_rfl) (by kernel_rfl) H ?_
          clear H
          intro ops hOps
          refine wpS_free hOps rfl (fun _ _ _ h => h) (yl_move rfl _ rfl) ?_
          simp only [nrm]
          refine wpS_free hOps rfl (fun _ _ _ h => h) (yl_move rfl _ rfl) ?_
          simp only [nrm]
          refine wpS_free hOps (v := ?vOp4015) rfl (fun _ _ _ h => h) (yl rfl ?yOp4015) ?_
          case yOp4015 => (intro w hw; go_simp; first | done | rfl)
          simp only [nrm]
          refine wpS_free hOps rfl (fun _ _ _ h => h) (yl_move rfl _ rfl) ?_
          simp only [nrm]
          refine wpS_take hOps rfl (fun _ _ _ h => h) (by first | exact Imp.refl _ | exact (Imp.refl _).more _ | exact ((Imp.refl _).more _).more _ | exact seps_pick _ _ (by repeat (first | exact List.Sublist.refl _ | exact List.nil_sublist _ | apply List.Sublist.cons_cons | apply List.Sublist.cons))) (GY.of_yields (yl_mid rfl 45 _ rfl (b := S) (off := 0) rfl s.cells (by kernel_rfl) (by rw [hsl.out]; exact size_slot) (fun w hw => at_blk hw 3 rfl))) ?_
          simp only [nrm]
          refine wpS_take hOps rfl (fun _ _ _ h => h) (by first | exact Imp.refl _ | exact (Imp.refl _).more _ | exact ((Imp.refl _).more _).more _ | exact seps_pick _ _ (by repeat (first | exact List.Sublist.refl _ | exact List.nil_sublist _ | apply List.Sublist.cons_cons | apply List.Sublist.cons))) (GY.of_yields (yl_mid rfl 45 _ rfl (b := S2) (off := 0) rfl s.cells (by kernel_rfl) (by rw [hsl.out]; exact size_slot) (fun w hw => at_blk hw 1 rfl))) ?_
          simp only [nrm]
          refine wpS_free hOps rfl (fun _ _ _ h => h) (yl rfl (fun w _ => neq_slot SO.out w _ _ _ _ _ rfl rfl rfl)) ?_
          simp only [nrm]
          refine wpS_free hOps (v := ?vOp4026) rfl (fun _ _ _ h => h) (yl rfl ?yOp4026) ?_
          case yOp4026 => (intro w hw; go_simp; first | done | rfl)
          simp only [nrm]
          refine wpS_free hOps rfl (fun _ _ _ h => h) (yl_move rfl _ rfl) ?_
          simp only [nrm]
          refine wpS_free hOps rfl (fun _ _ _ h => h) (yl_move rfl _ rfl) ?_
          simp only [nrm]
          refine wpS_free hOps (v := ?vOp4034) rfl (fun _ _ _ h => h) (yl rfl ?yOp4034) ?_
          case yOp4034 => (intro w hw; go_simp; first | done | rfl)
          simp only [nrm]
          refine wpS_free hOps rfl (fun _ _ _ h => h) (yl_move rfl _ rfl) ?_
          simp only [nrm]
          refine wpS_take hOps rfl (fun _ _ _ h => h) (by first | exact Imp.refl _ | exact (Imp.refl _).more _ | exact ((Imp.refl _).more _).more _ | exact seps_pick _ _ (by repeat (first | exact List.Sublist.refl _ | exact List.nil_sublist _ | apply List.Sublist.cons_cons | apply List.Sublist.cons))) (GY.of_yields (yl_mid rfl 39 _ rfl (b := X) (off := 0) rfl q.cells (by kernel_rfl) (by rw [hql.out]; exact size_pkt) (fun w hw => at_blk hw 2 rfl))) ?_
          simp only [nrm]
          refine wpS_fcall hOps (v := ?vOp4041) rfl (fun _ _ _ h => h) (GY.call rfl _ _ _ rfl Tryd.func13 rfl (by kernel_rfl) ?yOp4041) ?_
          case yOp4041 =>
            intro L w f H
            simp only [List.map_toArray, List.map_cons, List.map_nil, nrm]
            exact (ROf_c H QO.out)
          simp only [nrm]
          refine wpS_take hOps rfl (fun _ _ _ h => h) (by first | exact Imp.refl _ | exact (Imp.refl _).more _ | exact ((Imp.refl _).more _).more _ | exact seps_pick _ _ (by repeat (first | exact List.Sublist.refl _ | exact List.nil_sublist _ | apply List.Sublist.cons_cons | apply List.Sublist.cons))) (GY.of_yields (yl_mid rfl 52 _ rfl (b := Y2) (off := 0) rfl (rpC q) (by kernel_rfl) rp_size (fun w hw => at_blk hw 0 rfl))) ?_
          simp only [nrm]
          refine wpS_free hOps rfl (fun _ _ _ h => h) (yl rfl (fun w _ => neq_rp q w _ _ _ _ _ rfl rfl rfl)) ?_
          simp only [nrm]
          refine wpS_free hOps (v := ?vOp4047) rfl (fun _ _ _ h => h) (yl rfl ?yOp4047) ?_
          case yOp4047 => (intro w hw; go_simp; first | done | rfl)
          simp only [nrm]
          refine wpS_free hOps (v := ?vOp4049) rfl (fun _ _ _ h => h) (yl rfl ?yOp4049) ?_
          case yOp4049 => (intro w hw; go_simp; first | done | rfl)
          simp only [nrm]
          refine wpS_free hOps rfl (fun _ _ _ h => h) (yl_move rfl _ rfl) ?_
          simp only [nrm]
          refine wpS_free hOps rfl (fun _ _ _ h => h) (yl_move rfl _ rfl) ?_
          simp only [nrm]
          refine wpS_free hOps (v := ?vOp4057) rfl (fun _ _ _ h => h) (yl rfl ?yOp4057) ?_
          case yOp4057 => (intro w hw; go_simp; first | done | rfl)
          simp only [nrm]
          refine wpS_free hOps rfl (fun _ _ _ h => h) (yl_move rfl _ rfl) ?_
          simp only [nrm]
          refine wpS_free hOps rfl (fun _ _ _ h => h) (yn rfl) ?_
          simp only [nrm]
          refine wpS_free hOps rfl (fun _ _ _ h => h) (yn rfl) ?_
          simp only [nrm]
          refine wpS_free hOps rfl (fun _ _ _ h => h) (yn rfl) ?_
          simp only [nrm]
          refine wpS_free hOps (v := ?vOp4068) rfl (fun _ _ _ h => h) (yl rfl ?yOp4068) ?_
          case yOp4068 => (intro w hw; go_simp; first | done | rfl)
          simp only [nrm]
          refine wpS_free hOps (v := ?vOp4070) rfl (fun _ _ _ h => h) (yl rfl ?yOp4070) ?_
          case yOp4070 => (intro w hw; go_simp; first | done | rfl)
          simp only [nrm]
          refine wpS_end (fun w H => ?_)
          clear hOps ops
          go_wp2_with fail
          go_meet
          case rel => exact ⟨rfl, H.maskR [false, false, false, false]⟩
        · obtain rfl : q = PktD.zero := HE0.out he
          have hEb : (E == 0) = false := by rw [beq_eq_false_iff_ne]; have := HE.out; omega
          have hEn : (E != 0) = true := by simp [bne, hEb]
          refine wpS_begin [] (raw Y2 RE.toArray 52 :: raw S2 s.cells.toArray 45 :: raw X PktD.zero.cells.toArray 39 :: raw S s.cells.toArray 45 :: raw Q (rpC p).toArray 52 :: raw PB p.cells.toArray 39 :: raw KB (v8 key).toArray 29 :: raw B (v8 body).toArray 24 :: F) (.fr 0 (.fr 1 (.fr 2 (.fr 3 (.tk 4 (.tk 5 (.fr 6 (.fr 7 (.fr 8 (.fr 9 (.fr 10 (.fr 11 (.fr 12 (.fr 13 (.fr 14 (.fr 15 (.fr 16 (.fr 17 (.fr 18 (.fr 19 (.fr 20 (.fr 21 (.tk 22 (.fr 23 (.fr 24 (.fr 25 (.fr 26 .nil))))))))))))))))))))))))))) rfl (by kernel_rfl) (by kernel_rfl) H ?_
          clear H
          intro ops hOps
          refine wpS_free hOps rfl (fun _ _ _ h => h) (yl_move rfl _ rfl) ?_
          simp only [nrm]
          refine wpS_free hOps rfl (fun _ _ _ h => h) (yl_move rfl _ rfl) ?_
          simp only [nrm]
          refine wpS_free hOps (v := ?vOp4080) rfl (fun _ _ _ h => h) (yl rfl ?yOp4080) ?_
          case yOp4080 => (intro w hw; go_simp; first | done | rfl)
          simp only [nrm]
          refine wpS_free hOps rfl (fun _ _ _ h => h) (yl_move rfl _ rfl) ?_
          simp only [nrm]
          refine wpS_take hOps rfl (fun _ _ _ h => h) (by first | exact Imp.refl _ | exact (Imp.refl _).more _ | exact ((Imp.refl _).more _).more _ | exact seps_pick _ _ (by repeat (first | exact List.Sublist.refl _ | exact List.nil_sublist _ | apply List.Sublist.cons_cons | apply List.Sublist.cons))) (GY.of_yields (yl_mid rfl 45 _ rfl (b := S) (off := 0) rfl s.cells (by kernel_rfl) (by rw [hsl.out]; exact size_slot) (fun w hw => at_blk hw 3 rfl))) ?_
          simp only [nrm]
          refine wpS_take hOps rfl (fun _ _ _ h => h) (by first | exact Imp.refl _ | exact (Imp.refl _).more _ | exact ((Imp.refl _).more _).more _ | exact seps_pick _ _ (by repeat (first | exact List.Sublist.refl _ | exact List.nil_sublist _ | apply List.Sublist.cons_cons | apply List.Sublist.cons))) (GY.of_yields (yl_mid rfl 45 _ rfl (b := S2) (off := 0) rfl s.cells (by kernel_rfl) (by rw [hsl.out]; exact size_slot) (fun w hw => at_blk hw 1 rfl))) ?_
          simp only [nrm]
          refine wpS_free hOps rfl (fun _ _ _ h => h) (yl rfl (fun w _ => neq_slot SO.out w _ _ _ _ _ rfl rfl rfl)) ?_
          simp only [nrm]
          refine wpS_free hOps (v := ?vOp4091) rfl (fun _ _ _ h => h) (yl rfl ?yOp4091) ?_
          case yOp4091 => (intro w hw; go_simp; first | done | rfl)
          simp only [nrm]
          refine wpS_free hOps rfl (fun _ _ _ h => h) (yl_move rfl _ rfl) ?_
          simp only [nrm]
          refine wpS_free hOps rfl (fun _ _ _ h => h) (yl_move rfl _ rfl) ?_
          simp only [nrm]
          refine wpS_free hOps (v := ?vOp4099) rfl (fun _ _ _ h => h) (yl rfl ?yOp4099) ?_
          case yOp4099 => (intro w hw; go_simp; first | done | rfl)
          simp only [nrm]
          refine wpS_free hOps rfl (fun _ _ _ h => h) (yl_move rfl _ rfl) ?_
          simp only [nrm]
          refine wpS_free hOps rfl (fun _ _ _ h => h) (yn rfl) ?_
          simp only [nrm]
          refine wpS_free hOps rfl (fun _ _ _ h => h) (yn rfl) ?_
          simp only [nrm]
          refine wpS_free hOps rfl (fun _ _ _ h => h) (yn rfl) ?_
          simp only [nrm]
          refine wpS_free hOps rfl (fun _ _ _ h => h) (yn rfl) ?_
          simp only [nrm]
          refine wpS_free hOps (v := ?vOp4112) rfl (fun _ _ _ h => h) (yl rfl ?yOp4112) ?_
          case yOp4112 => (intro w hw; go_simp; first | done | rfl)
          simp only [nrm]
          refine wpS_free hOps (v := ?vOp4114) rfl (fun _ _ _ h => h) (yl rfl ?yOp4114) ?_
          case yOp4114 => (intro w hw; go_simp; first | done | rfl)
          simp only [nrm]
          refine wpS_free hOps rfl (fun _ _ _ h => h) (yl_move rfl _ rfl) ?_
          simp only [nrm]
          refine wpS_free hOps rfl (fun _ _ _ h => h) (yl_move rfl _ rfl) ?_
          simp only [nrm]
          refine wpS_free hOps (v := ?vOp4122) rfl (fun _ _ _ h => h) (yl rfl ?yOp4122) ?_
          case yOp4122 => (intro w hw; go_simp; first | done | rfl)
          simp only [nrm]
          refine wpS_free hOps rfl (fun _ _ _ h => h) (yl_move rfl _ rfl) ?_
          simp only [nrm]
          refine wpS_take hOps rfl (fun _ _ _ h => h) (by first | exact Imp.refl _ | exact (Imp.refl _).more _ | exact ((Imp.refl _).more _).more _ | exact seps_pick _ _ (by repeat (first | exact List.Sublist.refl _ | exact List.nil_sublist _ | apply List.Sublist.cons_cons | apply List.Sublist.cons))) (GY.of_yields (yl_mid rfl 39 _ rfl (b := X) (off := 0) rfl PktD.zero.cells (by kernel_rfl) size_pkt (fun w hw => at_blk hw 2 rfl))) ?_
          simp only [nrm]
          refine wpS_free hOps rfl (fun _ _ _ h => h) (Hg.yl_build rfl 39 _ rfl (by rw [Array.toList_map]; rfl) (run_buildL places_pkt [] rfl)) ?_
          simp only [nrm]
          refine wpS_free hOps rfl (fun _ _ _ h => h) (yl rfl (fun w _ => neq_pkt PktD.zero_ok w _ _ _ _ _ rfl rfl rfl)) ?_
          simp only [nrm]
          refine wpS_free hOps (v := ?vOp4133) rfl (fun _ _ _ h => h) (yl rfl ?yOp4133) ?_
          case yOp4133 => (intro w hw; go_simp; first | done | rfl)
          simp only [nrm]
          refine wpS_free hOps (v := ?vOp4135) rfl (fun _ _ _ h => h) (yl rfl ?yOp4135) ?_
          case yOp4135 => (intro w hw; go_simp; first | done | rfl)
          simp only [nrm]
          refine wpS_end (fun w H => ?_)
          clear hOps ops
          go_wp2_with fail
          go_meet
          case rel => exact ⟨rfl, H.maskR [false, false, false, false]⟩
      case rest =>
        obtain ⟨rfl, H⟩ := hcut
        obtain ⟨T, hT⟩ : ∃ T, T = tagOf key p.epoch p.nonce := ⟨_, rfl⟩
        have HT := Lib.hid (show (deriveOf key [[116, 97, 103], beN 4 p.epoch, p.nonce]).take 16 = T by rw [hT]; rfl)
        have HTl := Lib.hid (show T.length = 16 by rw [← HT.out, List.length_take, deriveOf_length]; rfl)
        obtain ⟨M, hM⟩ : ∃ M, M = macOf key p := ⟨_, rfl⟩
        have HMl := Lib.hid (show M.length = 16 by rw [hM]; exact sumOf_length _ _)
        have HT2 := Lib.hid hT
        have HM := Lib.hid hM
        have hpn := Lib.hid (PktD.part_nonce PO.out)
        clear hT hM
        go_wp2_with ((with_reducible refine wpList_op rfl ?_); intro _ hK; first
          | (refine dst_is 113 rfl ?_; refine wp_lda 29 _ rfl (b := KB) (bs := key) rfl (by kernel_rfl) (by rw [HK.out]; exact size_key) 2 H rfl (hK _ _ ?_))
          | (refine dst_is 115 rfl ?_; refine wp_get 30 _ rfl rfl (by kernel_rfl) (at_raw H 1 rfl (v := .int .u32 (p.epoch : Int)) rfl) (hK _ _ ?_))
          | (refine dst_is 117 rfl ?_; refine wp_mid 32 _ rfl (b := PB) (off := 2) rfl (v8 p.nonce) (by kernel_rfl) (by rw [v8_length, PO.out.nonce]; exact size_nonce) (at_part H 1 rfl (by rw [v8_length, PO.out.nonce]; exact hpn.out)) (hK _ _ (Stop.go ?_))))
        refine Stop.un ?_
        go_wp2_with fail
        refine (otag_c G H HK.out PO.out.nonce PO.out.epoch).mono ?_; rintro e' w' ⟨rfl, H⟩
        rw [← HT2.out]
        go_wp2_with ((with_reducible refine wpList_op rfl ?_); intro _ hK; first
          | (refine dst_is 23 rfl ?_; refine wp_alloc_sl 62 rfl info_tagt H (fun TB w' (H : At w0 (raw TB (v8 (zs 16)).toArray 62 :: raw Q (rpC p).toArray 52 :: raw PB p.cells.toArray 39 :: raw KB (v8 key).toArray 29 :: raw B (v8 body).toArray 24 :: F) w') _ => hK _ _ ?_))
          | (refine sto_is 23 rfl ?_; refine wp_sta 62 _ _ rfl (b := TB) (bs := zs 16) (cs := T) rfl rfl (by rw [HTl.out]; exact size_tagt) 0 H rfl (by rw [HTl.out, zs_length]) (fun w' (H : At w0 (raw TB (v8 T).toArray 62 :: raw Q (rpC p).toArray 52 :: raw PB p.cells.toArray 39 :: raw KB (v8 key).toArray 29 :: raw B (v8 body).toArray 24 :: F) w') => hK _ _ (Stop.go ?_))))
        refine Stop.un ?_
        go_wp2_with ((with_reducible refine wpList_op rfl ?_); intro _ hK; first
          | (refine dst_is 119 rfl ?_; refine wp_lda 29 _ rfl (b := KB) (bs := key) rfl (by kernel_rfl) (by rw [HK.out]; exact size_key) 3 H rfl (hK _ _ ?_))
          | (refine dst_is 120 rfl ?_; refine wp_mid 39 _ rfl rfl p.cells (by kernel_rfl) (by rw [hpl.out]; exact size_pkt) (at_blk H 2 rfl) (hK _ _ (Stop.go ?_))))
        refine Stop.un ?_
        go_wp2_with fail
        refine (omac_c G H HK.out PO.out).mono ?_; rintro e' w' ⟨rfl, H⟩
        rw [← HM.out]
        go_wp2_with ((with_reducible refine wpList_op rfl ?_); intro _ hK; first
          | (refine dst_is 24 rfl ?_; refine wp_alloc_sl 36 rfl info_mact2 H (fun MB w' (H : At w0 (raw MB (v8 (zs 16)).toArray 36 :: raw TB (v8 T).toArray 62 :: raw Q (rpC p).toArray 52 :: raw PB p.cells.toArray 39 :: raw KB (v8 key).toArray 29 :: raw B (v8 body).toArray 24 :: F) w') _ => hK _ _ ?_))
          | (refine sto_is 24 rfl ?_; refine wp_sta 36 _ _ rfl (b := MB) (bs := zs 16) (cs := M) rfl rfl (by rw [HMl.out]; exact size_mact2) 0 H rfl (by rw [HMl.out, zs_length]) (fun w' (H : At w0 (raw MB (v8 M).toArray 36 :: raw TB (v8 T).toArray 62 :: raw Q (rpC p).toArray 52 :: raw PB p.cells.toArray 39 :: raw KB (v8 key).toArray 29 :: raw B (v8 body).toArray 24 :: F) w') => hK _ _ (Stop.go ?_))))
        refine Stop.un ?_
        go_wp2_with fail
        refine wpS_begin [] (raw MB (v8 M).toArray 36 :: raw TB (v8 T).toArray 62 :: raw Q (rpC p).toArray 52 :: raw PB p.cells.toArray 39 :: raw KB (v8 key).toArray 29 :: raw B (v8 body).toArray 24 :: F) (.fr 0 (.fr 1 (.fr 2 (.tk 3 (.fr 4 (.tk 5 (.fr 6 (.tk 7 (.fr 8 (.tk 9 (.fr 10 (.fr 11 (.fr 12 (.fr 13 (.fr 14 (.tk 15 (.fr 16 (.tk 17 (.tk 18 (.fr 19 (.fr 20 (.fr 21 (.nx 22 .nil))))))))))))))))))))))) rfl (by kernel_rfl) (by kernel_rfl) H ?_
        clear H
        intro ops hOps
        refine wpS_free hOps rfl (fun _ _ _ h => h) (yl_move rfl _ rfl) ?_
        simp only [nrm]
        refine wpS_free hOps rfl (fun _ _ _ h => h) (yl_move rfl _ rfl) ?_
        simp only [nrm]
        refine wpS_free hOps (v := ?vOp4145) rfl (fun _ _ _ h => h) (yl rfl ?yOp4145) ?_
        case yOp4145 => (intro w hw; go_simp; first | done | rfl)
        simp only [nrm]
        refine wpS_take hOps rfl (fun _ _ _ h => h) (by first | exact Imp.refl _ | exact (Imp.refl _).more _ | exact ((Imp.refl _).more _).more _ | exact seps_pick _ _ (by repeat (first | exact List.Sublist.refl _ | exact List.nil_sublist _ | apply List.Sublist.cons_cons | apply List.Sublist.cons))) (GY.of_yields (yl rfl (fun w hw => exec_str_of (bs := T) rfl under_bytesT under_u8T under_strT rfl hw (see_blk 1 rfl HTl.out.symm)))) ?_
        simp only [nrm]
        refine wpS_free hOps (v := ?vOp4149) rfl (fun _ _ _ h => h) (yl rfl ?yOp4149) ?_
        case yOp4149 => (intro w hw; go_simp; first | done | rfl)
        simp only [nrm]
        refine wpS_take hOps rfl (fun _ _ _ h => h) (by first | exact Imp.refl _ | exact (Imp.refl _).more _ | exact ((Imp.refl _).more _).more _ | exact seps_pick _ _ (by repeat (first | exact List.Sublist.refl _ | exact List.nil_sublist _ | apply List.Sublist.cons_cons | apply List.Sublist.cons))) (GY.of_yields (yl rfl (fun w hw => exec_str_of (bs := key) rfl under_bytesT under_u8T under_strT rfl hw (see_blk 4 rfl HK.out.symm)))) ?_
        simp only [nrm]
        refine wpS_free hOps (v := ?vOp4153) rfl (fun _ _ _ h => h) (yl rfl ?yOp4153) ?_
        case yOp4153 => (intro w hw; go_simp; first | done | rfl)
        simp only [nrm]
        refine wpS_take hOps rfl (fun _ _ _ h => h) (by first | exact Imp.refl _ | exact (Imp.refl _).more _ | exact ((Imp.refl _).more _).more _ | exact seps_pick _ _ (by repeat (first | exact List.Sublist.refl _ | exact List.nil_sublist _ | apply List.Sublist.cons_cons | apply List.Sublist.cons))) (GY.of_yields (yl_get rfl _ _ rfl rfl (by kernel_rfl) (fun w hw => at_raw hw 2 rfl (v := .string (sB (beN 4 p.epoch))) rfl))) ?_
        simp only [nrm]
        refine wpS_free hOps (v := ?vOp4157) rfl (fun _ _ _ h => h) (yl rfl ?yOp4157) ?_
        case yOp4157 => (intro w hw; go_simp; first | done | rfl)
        simp only [nrm]
        refine wpS_take hOps rfl (fun _ _ _ h => h) (by first | exact Imp.refl _ | exact (Imp.refl _).more _ | exact ((Imp.refl _).more _).more _ | exact seps_pick _ _ (by repeat (first | exact List.Sublist.refl _ | exact List.nil_sublist _ | apply List.Sublist.cons_cons | apply List.Sublist.cons))) (GY.of_yields (yl_get rfl _ _ rfl rfl (by kernel_rfl) (fun w hw => at_raw hw 2 rfl (v := .string (sB p.nonce)) rfl))) ?_
        simp only [nrm]
        refine wpS_fcall hOps (v := ?vOp4161) rfl (fun _ _ _ h => h) (GY.call rfl _ _ _ rfl Tryd.func19 rfl (by kernel_rfl) ?yOp4161) ?_
        case yOp4161 =>
          intro L w f H
          simp only [List.map_toArray, List.map_cons, List.map_nil, nrm]
          exact (by have h := RTag_c (key := key) (e := beN 4 p.epoch) (n := p.nonce) H (by rw [HK.out]; omega) (by rw [beN_length]; omega) (by rw [PO.out.nonce]; omega); rw [HT.out] at h; exact h)
        simp only [nrm]
        refine wpS_free hOps rfl (fun _ _ _ h => h) (yl rfl (fun w _ => exec_seql_t (u := T) (v := T) rfl rfl rfl rfl w)) ?_
        simp only [nrm]
        refine wpS_free hOps (v := ?vOp4165) rfl (fun _ _ _ h => h) (yl rfl ?yOp4165) ?_
        case yOp4165 => (intro w hw; go_simp; first | done | rfl)
        simp only [nrm]
        refine wpS_free hOps rfl (fun _ _ _ h => h) (yl_move rfl _ rfl) ?_
        simp only [nrm]
        refine wpS_free hOps (v := ?vOp4170) rfl (fun _ _ _ h => h) (yl rfl ?yOp4170) ?_
        case yOp4170 => (intro w hw; go_simp; first | done | rfl)
        simp only [nrm]
        refine wpS_take hOps rfl (fun _ _ _ h => h) (by first | exact Imp.refl _ | exact (Imp.refl _).more _ | exact ((Imp.refl _).more _).more _ | exact seps_pick _ _ (by repeat (first | exact List.Sublist.refl _ | exact List.nil_sublist _ | apply List.Sublist.cons_cons | apply List.Sublist.cons))) (GY.of_yields (yl rfl (fun w hw => exec_str_of (bs := M) rfl under_bytesT under_u8T under_strT rfl hw (see_blk 0 rfl HMl.out.symm)))) ?_
        simp only [nrm]
        refine wpS_free hOps (v := ?vOp4174) rfl (fun _ _ _ h => h) (yl rfl ?yOp4174) ?_
        case yOp4174 => (intro w hw; go_simp; first | done | rfl)
        simp only [nrm]
        refine wpS_take hOps rfl (fun _ _ _ h => h) (by first | exact Imp.refl _ | exact (Imp.refl _).more _ | exact ((Imp.refl _).more _).more _ | exact seps_pick _ _ (by repeat (first | exact List.Sublist.refl _ | exact List.nil_sublist _ | apply List.Sublist.cons_cons | apply List.Sublist.cons))) (GY.of_yields (yl rfl (fun w hw => exec_str_of (bs := key) rfl under_bytesT under_u8T under_strT rfl hw (see_blk 4 rfl HK.out.symm)))) ?_
        simp only [nrm]
        refine wpS_take hOps rfl (fun _ _ _ h => h) (by first | exact Imp.refl _ | exact (Imp.refl _).more _ | exact ((Imp.refl _).more _).more _ | exact seps_pick _ _ (by repeat (first | exact List.Sublist.refl _ | exact List.nil_sublist _ | apply List.Sublist.cons_cons | apply List.Sublist.cons))) (GY.of_yields (yl_mid rfl 52 _ rfl (b := Q) (off := 0) rfl (rpC p) (by kernel_rfl) rp_size (fun w hw => at_blk hw 2 rfl))) ?_
        simp only [nrm]
        refine wpS_fcall hOps (v := ?vOp4180) rfl (fun _ _ _ h => h) (GY.call rfl _ _ _ rfl Tryd.func12 rfl (by kernel_rfl) ?yOp4180) ?_
        case yOp4180 =>
          intro L w f H
          simp only [List.map_toArray, List.map_cons, List.map_nil, nrm]
          exact (by have h := RMAC11_c (key := key) H (by rw [HK.out]; omega) PO.out; rw [← HM.out] at h; exact h)
        simp only [nrm]
        refine wpS_free hOps rfl (fun _ _ _ h => h) (yl rfl (fun w _ => exec_seql_t (u := M) (v := M) rfl rfl rfl rfl w)) ?_
        simp only [nrm]
        refine wpS_free hOps (v := ?vOp4184) rfl (fun _ _ _ h => h) (yl rfl ?yOp4184) ?_
        case yOp4184 => (intro w hw; go_simp; first | done | rfl)
        simp only [nrm]
        refine wpS_next hOps rfl rfl ?_
        intro w H K hK
        refine wp_run rfl ?_
        refine hK _ _ _ (.inr (.inl (Imp.refl _))) H ?_
        clear hK K H
        try simp only [nrm]
        refine wpS_end (fun w H => ?_)
        clear hOps ops
        go_wp2_with fail
        go_ret
        exact ⟨rfl, H.maskR [false, false, false, false, false, false]⟩
theorem onionTells_walk {W : World} {v : Value} {hops : List HopO} {a : Int} {body key : List (BitVec 8)} {p : PktD} (G : Glob W) (hv : SeeL 54 hopC W [] v hops) (ha : (Lit.int .u16 a).wf = true) (hb : body.length = 256) (hk : key.length = 32) (po : p.ok) :
    Calls Tryd.prog 7 #[v, .int .u16 a, .agg (v8 body).toArray, .agg (v8 key).toArray, .agg p.cells.toArray] W fun e w' => e = .returned (.bool true) ∧ Below W.heap.size W w' := by
  obtain ⟨n, hn, rfl⟩ := u16_nat ha
  exact (onionTells_c G (At.start W) hv hn hb hk po).mono fun _ _ h => ⟨h.1, h.2.below⟩
theorem onionTells_own : ownKnob Tryd.prog.godebug = none := by kernel_rfl
theorem onionTells_laidout : laidOutB Tryd.prog = true := by kernel_rfl
set_option maxRecDepth 100000 in
theorem onionTells_contract (H : Type) (enc : TypeId × Value → H) (W : World) (base : Nat) (args : Array Value) (ds gs : List (DataW H)) (before : List MemPlace)
    (hval : ∀ (j : Nat) t v, Tryd.f7.params[j]? = some t → args[j]? = some v → Value.okWide Tryd.prog W .any base t v)
    (hW : DataW.Whole enc Tryd.prog Tryd.f7.params.toList Rows.onionTellsSpec.vars false W args.toList ds gs before) (hL : laidMetH Tryd.prog Rows.onionTellsRow.laid W) :
    Calls Tryd.prog 7 args W fun e W' => ∃ v, e = .returned v ∧ Rows.onionTellsSpec.post enc Tryd.prog Tryd.f7 false true false false W args v W' := by
  have G : Glob W := glob_of_laid hL
  have hW' := hW
  obtain ⟨p, q, hA0, hV, rfl, hfz, hnd⟩ := hW
  have hA : DataW.TrodAll enc Tryd.prog W 0 (fun _ => true) true Tryd.f7.params.toList args.toList ds p := hA0
  rw [Tryd.params7] at hA hval
  obtain ⟨v0, vs0, d0, ds0, p0, q0, hargs, rfl, rfl, h0, r0⟩ := trodAll_cons hA
  obtain ⟨v1, vs1, d1, ds1, p1, q1, rfl, rfl, rfl, h1, r1⟩ := trodAll_cons r0
  obtain ⟨v2, vs2, d2, ds2, p2, q2, rfl, rfl, rfl, h2, r2⟩ := trodAll_cons r1
  obtain ⟨v3, vs3, d3, ds3, p3, q3, rfl, rfl, rfl, h3, r3⟩ := trodAll_cons r2
  obtain ⟨v4, vs4, d4, ds4, p4, q4, rfl, rfl, rfl, h4, r4⟩ := trodAll_cons r3
  obtain ⟨rfl, rfl, rfl⟩ := trodAll_nil r4
  obtain rfl : args = #[v0, v1, v2, v3, v4] := by cases args; simp_all
  obtain ⟨rfl, rfl⟩ := trodVars_none hV
  have k0 := h0
  have lt0 : ∀ x ∈ p0, x.block < W.heap.size := by obtain ⟨m, hm⟩ := k0; exact DataW.trod_lt m _ _ _ hm
  have k1 := h1
  have lt1 : ∀ x ∈ p1, x.block < W.heap.size := by obtain ⟨m, hm⟩ := k1; exact DataW.trod_lt m _ _ _ hm
  have k2 := h2
  have lt2 : ∀ x ∈ p2, x.block < W.heap.size := by obtain ⟨m, hm⟩ := k2; exact DataW.trod_lt m _ _ _ hm
  have k3 := h3
  have lt3 : ∀ x ∈ p3, x.block < W.heap.size := by obtain ⟨m, hm⟩ := k3; exact DataW.trod_lt m _ _ _ hm
  have k4 := h4
  have lt4 : ∀ x ∈ p4, x.block < W.heap.size := by obtain ⟨m, hm⟩ := k4; exact DataW.trod_lt m _ _ _ hm
  obtain ⟨a0, f0⟩ := open_hops (e := 35) (by kernel_rfl) Tryd.underlying22 (by kernel_rfl) (hval 0 22 v0 rfl rfl) h0
  obtain ⟨a1, rfl, rfl, rfl, f1⟩ := open_int Tryd.underlying23 (hval 1 23 v1 rfl rfl) h1
  obtain ⟨a2, f2, rfl⟩ := open_bytes (n := 256) (by kernel_rfl) Tryd.underlying24 (hval 2 24 v2 rfl rfl) h2
  obtain ⟨a3, f3, rfl⟩ := open_bytes (n := 32) (by kernel_rfl) Tryd.underlying29 (hval 3 29 v3 rfl rfl) h3
  obtain ⟨a4, f4, rfl⟩ := open_pkt (by kernel_rfl) Tryd.underlying39 (hval 4 39 v4 rfl rfl) h4
  clear hA0
  refine (onionTells_walk G f0 f1 f2 f3 f4).mono fun e W' ⟨he, bel⟩ => ?_
  subst he
  exact ⟨_, rfl, _, _, _, [], _, [], hW', trodAll_mk1 (shut_bool Tryd.underlying4 _), (trodAll_cons_mk (Below.trod onionTells_laidout (by kernel_rfl) (of_decide_eq_true (by kernel_rfl)) k0 bel lt0) (trodAll_cons_mk (Below.trod onionTells_laidout (by kernel_rfl) (of_decide_eq_true (by kernel_rfl)) k1 bel lt1) (trodAll_cons_mk (Below.trod onionTells_laidout (by kernel_rfl) (of_decide_eq_true (by kernel_rfl)) k2 bel lt2) (trodAll_cons_mk (Below.trod onionTells_laidout (by kernel_rfl) (of_decide_eq_true (by kernel_rfl)) k3 bel lt3) (trodAll_cons_mk (Below.trod onionTells_laidout (by kernel_rfl) (of_decide_eq_true (by kernel_rfl)) k4 bel lt4) trodAll_mk0))))), rfl, bel.frame _, fun h => by cases h⟩
noncomputable def onionTells_wit : Array Value := #[.slice none 0 0, .int .u16 0, .agg (v8 (zs 256)).toArray, .agg (v8 (zs 32)).toArray, .agg PktD.zero.cells.toArray]
theorem onionTells_met (os : Os) : laidMet Tryd.prog Rows.onionTellsRow.laid ((laidWorld os).forCall (fun _ _ => 0) ⟨#[], onionTells_wit, []⟩).memory := laidMet_of_run' 8 (by kernel_rfl) (by kernel_rfl)
set_option maxRecDepth 100000 in
theorem onionTells_lifted (os : Os) (started : os.Started) (H : Type) (enc : TypeId × Value → H) (F : Stop.Interp) :
    ReturnsInHanded {} Tryd.checked os 7 .any ((OpenSpec.ofChange Rows.onionTellsSpec).preRow enc Tryd.prog Tryd.f7 Rows.onionTellsRow.domain false Rows.onionTellsRow.laid) (((OpenSpec.ofChange Rows.onionTellsSpec).at F).post enc Tryd.prog Tryd.f7 false true false false) := by
  obtain ⟨x, hx⟩ := Option.isSome_iff_exists.1 (show (DataW.whole enc Tryd.prog ((laidWorld os).forCall (fun _ _ => 0) ⟨#[], onionTells_wit, []⟩).memory Tryd.f7.params.toList Rows.onionTellsSpec.vars false onionTells_wit.toList 8).isSome = true by kernel_rfl)
  refine returnsInHanded_of_row (C := Tryd.checked) (s := OpenSpec.ofChange Rows.onionTellsSpec) onionTells_own started (by kernel_rfl) Tryd.func7
    (witness_row_at (enc := enc) (C := Tryd.checked) false (laidWorld os) onionTells_wit rfl (by kernel_rfl) (by kernel_rfl) (by kernel_rfl)
      (OpenSpec.preRow_of_cond 8 hx (by kernel_rfl) (fun k hk => by cases hk) (by kernel_rfl) (onionTells_met os))) ?_
  intro W base args ds gs before hval hW _ _ _ hL _ _
  exact onionTells_contract H enc W base args ds gs before hval hW hL
theorem onionTells_said : Rows.OnionTellsSaid :=
  OpenClaim.holds_of_cond 7 Tryd.f7 rfl rfl rfl rfl rfl rfl rfl ⟨rfl, rfl, rfl, rfl, rfl⟩ rfl rfl rfl rfl rfl (by kernel_rfl) Tryd.func7 (by kernel_rfl)
    (of_decide_eq_true (by kernel_rfl)) (by unfold Func.isWrapper; first | (rw [if_pos (by decide +kernel)]; kernel_rfl) | (rw [if_neg (by decide +kernel)]; exact ⟨rfl, rfl⟩))
    (fun os started H enc _ F => by rw [OpenClaim.pre_eq_preRow]; exact onionTells_lifted os started H enc F)
theorem onionTells_plain (f : FuncId) (fn : Func) (hf : Tryd.pinned.checked.prog.funcNamed "hourglass/hourglasslaw11.OnionTells" = some f) (hfn : Tryd.pinned.checked.prog.funcs[f]? = some fn) :
    false = Tryd.pinned.checked.prog.looks [] ∧ ∀ (j : Nat) t, fn.params[j]? = some t → Tryd.pinned.checked.prog.wantsStandIn t = false := by
  obtain rfl : f = 7 := Option.some.inj ((show Tryd.prog.funcNamed "hourglass/hourglasslaw11.OnionTells" = some 7 by kernel_rfl).symm.trans hf) |>.symm
  obtain rfl : fn = Tryd.f7 := (Option.some.inj (Tryd.func7.symm.trans hfn)).symm
  refine ⟨by kernel_rfl, fun j t ht => ?_⟩
  have hall : ∀ t ∈ Tryd.f7.params, Tryd.prog.wantsStandIn t = false := by
    have h : (Tryd.f7.params.toList.all fun t => !Tryd.prog.wantsStandIn t) = true := by kernel_rfl
    intro t ht
    simpa using List.all_eq_true.1 h t (Array.mem_toList_iff.2 ht)
  exact hall t (Array.mem_of_getElem? ht)
/-- The card. -/
theorem onionTells_holds : Rows.OnionTellsCardSaid :=
  Claim7.holds_tied_plain_at .later [] _ _ _ _ onionTells_said (fun _ h => by cases h) (by kernel_rfl) (fun _ h => by cases h) onionTells_row_tie rfl ⟨rfl, rfl⟩ (by kernel_rfl) rfl onionTells_plain (by kernel_rfl)
#print axioms onionTells_holds
end Go.Proofs.YtgdphamdbpkjdaaDoor
