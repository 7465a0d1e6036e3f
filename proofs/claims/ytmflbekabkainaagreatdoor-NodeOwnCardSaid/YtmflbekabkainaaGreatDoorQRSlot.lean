import Derived.Test.YtmflbekabkainaaGreatDoorQRA
import Derived.Test.YtmflbekabkainaaGreatDoorQSlotC
import Derived.Test.YtmflbekabkainaaGreatDoorQHgD
import Derived.Test.YtmflbekabkainaaGreatDoorQPeel
import Derived.Test.YtmflbekabkainaaGreatDoorQFree
import Derived.Test.YtmflbekabkainaaGreatDoorQRCha
import Derived.Deep.CutRange
set_option linter.unusedVariables false
set_option linter.unusedSimpArgs false
namespace Go.Proofs.YtmflbekabkainaaGreatDoor
open Go.RowKit Go.Hg
set_option maxRecDepth 10000 in
set_option maxHeartbeats 2000000 in
theorem RWrite_c {w0 w : World} {F : List SP} {s : SlotD} (H : At w0 F w) (so : s.ok) : Calls Tryz.prog 80 #[.agg s.cells.toArray] w fun r w' => r = .returned (.string (sB s.bytes)) ∧ At w0 F w' := by
 have SO := Lib.hid so
 have h37 := Lib.hid (show s.cells[37]? = some (.int .u64 (s.lo : Int)) from SlotD.cells_post so.nonce so.mac 0)
 have h38 := Lib.hid (show s.cells[38]? = some (.int .u64 (s.hi : Int)) from SlotD.cells_post so.nonce so.mac 1)
 have h39 := Lib.hid (show s.cells[39]? = some (.int .u32 (s.delay : Int)) from SlotD.cells_post so.nonce so.mac 2)
 have h0 := Lib.hid (show s.cells[0]? = some (.bool s.last) from rfl)
 have h1 := Lib.hid (show s.cells[1]? = some (.int .u16 (s.next : Int)) from rfl)
 have h2 := Lib.hid (show s.cells[2]? = some (.int .u16 (s.box : Int)) from rfl)
 have h3 := Lib.hid (show s.cells[3]? = some (.int .u16 (s.who : Int)) from rfl)
 have h4 := Lib.hid (show s.cells[4]? = some (.int .u32 (s.epoch : Int)) from rfl)
 have h5 := Lib.hid (SlotD.cells_nonce so.nonce)
 have h6 := Lib.hid (SlotD.cells_mac so.nonce so.mac)
 have e1 : IntKind.u64.wrap (s.next : Int) = (s.next : Int) := by rw [IntKind.wrap_u64]; have := so.next; omega
 have e2 : IntKind.u64.wrap (s.box : Int) = (s.box : Int) := by rw [IntKind.wrap_u64]; have := so.box; omega
 have e3 : IntKind.u64.wrap (s.who : Int) = (s.who : Int) := by rw [IntKind.wrap_u64]; have := so.who; omega
 have e4 : IntKind.u64.wrap (s.epoch : Int) = (s.epoch : Int) := by rw [IntKind.wrap_u64]; have := so.epoch; omega
 have e5 : IntKind.u64.wrap (s.delay : Int) = (s.delay : Int) := by rw [IntKind.wrap_u64]; have := so.delay; omega
 clear so
 go_enter Tryz.func80, Tryz.ntmps80
 go_wp2_with ((with_reducible refine wpList_op rfl ?_); intro _ hK; first
  | (refine dst_is 1 rfl ?_; refine wp_box_sl (v := .agg s.cells.toArray) 60 _ rfl rfl H (fun B w' (H : At w0 (raw B s.cells.toArray 60 :: F) w') _ => hK _ _ (Stop.go ?_))))
 refine Stop.un ?_
 go_wp2_with fail
 refine wpS_begin [] (raw B s.cells.toArray 60 :: F) (.fr 0 (.fr 1 (.tk 2 (.fr 3 (.fr 4 (.fr 5 (.nx 6 .nil))))))) rfl (by kernel_rfl) (by kernel_rfl) H ?_
 clear H
 intro ops hOps
 refine wpS_fcall hOps (v := ?vOp2802) rfl (fun _ _ _ h => h) (GY.call rfl _ _ _ rfl Tryz.func108 rfl (by kernel_rfl) ?yOp2802) ?_
 case yOp2802 =>
  intro L w f H
  simp only [List.map_toArray, List.map_cons, List.map_nil, nrm]
  exact (RText_c (n := 0) (k := 1) H (by omega) (by omega))
 simp only [nrm]
 refine fs hOps ?_
 refine ts hOps (fun w hw => at_raw hw 0 rfl h1.out) ?_
 refine fs hOps ?_
 refine wpS_fcall hOps (v := ?vOp2810) rfl (fun _ _ _ h => h) (GY.call rfl _ _ _ rfl Tryz.func108 rfl (by kernel_rfl) ?yOp2810) ?_
 case yOp2810 =>
  intro L w f H
  simp only [List.map_toArray, List.map_cons, List.map_nil, nrm]
  exact (RText_c (n := s.next) (k := 2) H (by have := SO.out.next; omega) (by omega))
 simp only [nrm]
 refine wpS_free hOps rfl (fun _ _ _ h => h) (yl rfl (fun w _ => exec_sadd (u := beN 1 0) (v := beN 2 s.next) rfl rfl rfl (by rw [beN_length, beN_length]; omega) w)) ?_
 simp only [nrm]
 refine wpS_next hOps rfl rfl ?_
 intro w H K hK
 refine wp_run rfl ?_
 refine hK _ _ _ (.inr (.inl (Imp.refl _))) H ?_
 clear hK K H
 try simp only [nrm]
 refine wpS_end (fun w H => ?_)
 clear hOps ops
 go_upto_if 11 with ((with_reducible refine wpList_op rfl ?_); intro _ hK; first
  | (refine dst_is 11 rfl ?_; refine wp_get 4 _ rfl rfl (by kernel_rfl) (at_raw H 0 rfl h0.out) (hK _ _ ?_)))
 simp only [nrm]
 go_cut [3] from 4 to 18 (fun v wr => v = .string (sB (beN 1 s.kind ++ beN 2 s.to)) ∧ At w0 (raw B s.cells.toArray 60 :: F) wr)
 case first =>
  cases hl : s.last with
  | false =>
   have hk := Lib.hid (show beN 1 0 ++ beN 2 s.next = beN 1 s.kind ++ beN 2 s.to by unfold SlotD.kind SlotD.to; rw [hl]; rfl)
   rw [hk.out]
   clear hl
   go_wp2_with fail
   go_meet
   case rel => exact ⟨rfl, H⟩
  | true =>
   have hk := Lib.hid (show beN 1 1 ++ beN 2 s.box = beN 1 s.kind ++ beN 2 s.to by unfold SlotD.kind SlotD.to; rw [hl]; rfl)
   clear hl
   go_wp2_with fail
   refine wpS_begin [] (raw B s.cells.toArray 60 :: F) (.fr 0 (.fr 1 (.tk 2 (.fr 3 (.fr 4 (.fr 5 (.nx 6 .nil))))))) rfl (by kernel_rfl) (by kernel_rfl) H ?_
   clear H
   intro ops hOps
   refine wpS_fcall hOps (v := ?vOp2818) rfl (fun _ _ _ h => h) (GY.call rfl _ _ _ rfl Tryz.func108 rfl (by kernel_rfl) ?yOp2818) ?_
   case yOp2818 =>
    intro L w f H
    simp only [List.map_toArray, List.map_cons, List.map_nil, nrm]
    exact (RText_c (n := 1) (k := 1) H (by omega) (by omega))
   simp only [nrm]
   refine fs hOps ?_
   refine ts hOps (fun w hw => at_raw hw 0 rfl h2.out) ?_
   refine fs hOps ?_
   refine wpS_fcall hOps (v := ?vOp2826) rfl (fun _ _ _ h => h) (GY.call rfl _ _ _ rfl Tryz.func108 rfl (by kernel_rfl) ?yOp2826) ?_
   case yOp2826 =>
    intro L w f H
    simp only [List.map_toArray, List.map_cons, List.map_nil, nrm]
    exact (RText_c (n := s.box) (k := 2) H (by have := SO.out.box; omega) (by omega))
   simp only [nrm]
   refine wpS_free hOps rfl (fun _ _ _ h => h) (yl rfl (fun w _ => exec_sadd (u := beN 1 1) (v := beN 2 s.box) rfl rfl rfl (by rw [beN_length, beN_length]; omega) w)) ?_
   simp only [nrm]
   refine wpS_next hOps rfl rfl ?_
   intro w H K hK
   refine wp_run rfl ?_
   refine hK _ _ _ (.inr (.inl (Imp.refl _))) H ?_
   clear hK K H
   try simp only [nrm]
   refine wpS_end (fun w H => ?_)
   clear hOps ops
   rw [hk.out]
   go_wp2_with fail
   go_meet
   case rel => exact ⟨rfl, H⟩
 case rest =>
  obtain ⟨rfl, H⟩ := hcut
  obtain ⟨X, hX⟩ : ∃ X, X = beN 1 s.kind ++ beN 2 s.to := ⟨_, rfl⟩
  have hXl := Lib.hid (show X.length = 3 by rw [hX, List.length_append, beN_length, beN_length])
  have hres := Lib.hid (show X ++ beN 8 s.lo ++ beN 8 s.hi ++ beN 4 s.delay ++ beN 2 s.who ++ beN 4 s.epoch ++ s.nonce ++ s.mac ++ zs 3 = s.bytes by rw [hX]; rfl)
  rw [← hX]
  clear hX
  go_wp2_with fail
  refine wpS_begin [] (raw B s.cells.toArray 60 :: F) (.fr 0 (.fr 1 (.tk 2 (.fr 3 (.fr 4 (.fr 5 (.tk 6 (.fr 7 (.fr 8 (.fr 9 (.tk 10 (.fr 11 (.fr 12 (.fr 13 (.nx 14 .nil))))))))))))))) rfl (by kernel_rfl) (by kernel_rfl) H ?_
  clear H
  intro ops hOps
  iterate 2 refine fs hOps ?_
  refine ts hOps (fun w hw => at_raw hw 0 rfl h37.out) ?_
  refine wpS_fcall hOps (v := ?vOp2841) rfl (fun _ _ _ h => h) (GY.call rfl _ _ _ rfl Tryz.func108 rfl (by kernel_rfl) ?yOp2841) ?_
  case yOp2841 =>
   intro L w f H
   simp only [List.map_toArray, List.map_cons, List.map_nil, nrm]
   exact (RText_c (n := s.lo) (k := 8) H (by have := SO.out.lo; omega) (by omega))
  simp only [nrm]
  refine wpS_free hOps rfl (fun _ _ _ h => h) (yl rfl (fun w _ => exec_sadd (u := X) (v := beN 8 s.lo) rfl rfl rfl (by rw [beN_length, hXl.out]; omega) w)) ?_
  simp only [nrm]
  refine fs hOps ?_
  refine ts hOps (fun w hw => at_raw hw 0 rfl h38.out) ?_
  refine wpS_fcall hOps (v := ?vOp2849) rfl (fun _ _ _ h => h) (GY.call rfl _ _ _ rfl Tryz.func108 rfl (by kernel_rfl) ?yOp2849) ?_
  case yOp2849 =>
   intro L w f H
   simp only [List.map_toArray, List.map_cons, List.map_nil, nrm]
   exact (RText_c (n := s.hi) (k := 8) H (by have := SO.out.hi; omega) (by omega))
  simp only [nrm]
  refine wpS_free hOps rfl (fun _ _ _ h => h) (yl rfl (fun w _ => exec_sadd (u := X ++ beN 8 s.lo) (v := beN 8 s.hi) rfl rfl rfl (by simp only [List.length_append, beN_length, hXl.out]; omega) w)) ?_
  simp only [nrm]
  refine fs hOps ?_
  refine ts hOps (fun w hw => at_raw hw 0 rfl h39.out) ?_
  refine fs hOps ?_
  refine wpS_fcall hOps (v := ?vOp2859) rfl (fun _ _ _ h => h) (GY.call rfl _ _ _ rfl Tryz.func108 rfl (by kernel_rfl) ?yOp2859) ?_
  case yOp2859 =>
   intro L w f H
   simp only [List.map_toArray, List.map_cons, List.map_nil, nrm]
   exact (RText_c (n := s.delay) (k := 4) H (by have := SO.out.delay; omega) (by omega))
  simp only [nrm]
  refine wpS_free hOps rfl (fun _ _ _ h => h) (yl rfl (fun w _ => exec_sadd (u := X ++ beN 8 s.lo ++ beN 8 s.hi) (v := beN 4 s.delay) rfl rfl rfl (by simp only [List.length_append, beN_length, hXl.out]; omega) w)) ?_
  simp only [nrm]
  refine wpS_next hOps rfl rfl ?_
  intro w H K hK
  refine wp_run rfl ?_
  refine hK _ _ _ (.inr (.inl (Imp.refl _))) H ?_
  clear hK K H
  try simp only [nrm]
  refine wpS_end (fun w H => ?_)
  clear hOps ops
  obtain ⟨Y, hY⟩ : ∃ Y, Y = X ++ beN 8 s.lo ++ beN 8 s.hi ++ beN 4 s.delay := ⟨_, rfl⟩
  have hYl := Lib.hid (show Y.length = 23 by rw [hY]; simp only [List.length_append, beN_length, hXl.out])
  have HY := Lib.hid hY
  rw [← hY]
  clear hY
  go_wp2_with fail
  refine wpS_begin [] (raw B s.cells.toArray 60 :: F) (.fr 0 (.fr 1 (.tk 2 (.fr 3 (.fr 4 (.fr 5 (.fr 6 (.tk 7 (.fr 8 (.fr 9 (.fr 10 (.fr 11 (.fr 12 (.tk 13 (.fr 14 (.fr 15 (.fr 16 (.tk 17 (.fr 18 (.fr 19 (.fr 20 (.nx 21 .nil)))))))))))))))))))))) rfl (by kernel_rfl) (by kernel_rfl) H ?_
  clear H
  intro ops hOps
  iterate 2 refine fs hOps ?_
  refine ts hOps (fun w hw => at_raw hw 0 rfl h3.out) ?_
  refine fs hOps ?_
  refine wpS_fcall hOps (v := ?vOp2876) rfl (fun _ _ _ h => h) (GY.call rfl _ _ _ rfl Tryz.func108 rfl (by kernel_rfl) ?yOp2876) ?_
  case yOp2876 =>
   intro L w f H
   simp only [List.map_toArray, List.map_cons, List.map_nil, nrm]
   exact (RText_c (n := s.who) (k := 2) H (by have := SO.out.who; omega) (by omega))
  simp only [nrm]
  refine wpS_free hOps rfl (fun _ _ _ h => h) (yl rfl (fun w _ => exec_sadd (u := Y) (v := beN 2 s.who) rfl rfl rfl (by simp only [List.length_append, beN_length, hYl.out]; omega) w)) ?_
  simp only [nrm]
  refine fs hOps ?_
  refine ts hOps (fun w hw => at_raw hw 0 rfl h4.out) ?_
  refine fs hOps ?_
  refine wpS_fcall hOps (v := ?vOp2886) rfl (fun _ _ _ h => h) (GY.call rfl _ _ _ rfl Tryz.func108 rfl (by kernel_rfl) ?yOp2886) ?_
  case yOp2886 =>
   intro L w f H
   simp only [List.map_toArray, List.map_cons, List.map_nil, nrm]
   exact (RText_c (n := s.epoch) (k := 4) H (by have := SO.out.epoch; omega) (by omega))
  simp only [nrm]
  refine wpS_free hOps rfl (fun _ _ _ h => h) (yl rfl (fun w _ => exec_sadd (u := Y ++ beN 2 s.who) (v := beN 4 s.epoch) rfl rfl rfl (by simp only [List.length_append, beN_length, hYl.out]; omega) w)) ?_
  simp only [nrm]
  iterate 2 refine fs hOps ?_
  refine wpS_take hOps rfl (fun _ _ _ h => h) pk (GY.of_yields (yl rfl (fun w hw => exec_str_of (bs := s.nonce) rfl under_bytesT under_u8T under_strT rfl hw (see_part 0 rfl SO.out.nonce.symm (Nat.le_refl _) h5.out)))) ?_
  simp only [nrm]
  refine wpS_free hOps rfl (fun _ _ _ h => h) (yl rfl (fun w _ => exec_sadd (u := Y ++ beN 2 s.who ++ beN 4 s.epoch) (v := s.nonce) rfl rfl rfl (by simp only [List.length_append, beN_length, hYl.out, SO.out.nonce]; omega) w)) ?_
  simp only [nrm]
  iterate 2 refine fs hOps ?_
  refine wpS_take hOps rfl (fun _ _ _ h => h) pk (GY.of_yields (yl rfl (fun w hw => exec_str_of (bs := s.mac) rfl under_bytesT under_u8T under_strT rfl hw (see_part 0 rfl SO.out.mac.symm (Nat.le_refl _) h6.out)))) ?_
  simp only [nrm]
  refine wpS_free hOps rfl (fun _ _ _ h => h) (yl rfl (fun w _ => exec_sadd (u := Y ++ beN 2 s.who ++ beN 4 s.epoch ++ s.nonce) (v := s.mac) rfl rfl rfl (by simp only [List.length_append, beN_length, hYl.out, SO.out.nonce, SO.out.mac]; omega) w)) ?_
  simp only [nrm]
  refine wpS_fcall hOps (v := ?vOp2906) rfl (fun _ _ _ h => h) (GY.call rfl _ _ _ rfl Tryz.func109 rfl (by kernel_rfl) ?yOp2906) ?_
  case yOp2906 =>
   intro L w f H
   simp only [List.map_toArray, List.map_cons, List.map_nil, nrm]
   exact (RZeros_c (n := 3) H (by omega))
  simp only [nrm]
  refine wpS_free hOps rfl (fun _ _ _ h => h) (yl rfl (fun w _ => exec_sadd (u := Y ++ beN 2 s.who ++ beN 4 s.epoch ++ s.nonce ++ s.mac) (v := zs 3) rfl rfl rfl (by simp only [List.length_append, beN_length, hYl.out, SO.out.nonce, SO.out.mac, zs_length]; omega) w)) ?_
  simp only [nrm]
  refine wpS_next hOps rfl rfl ?_
  intro w H K hK
  refine wp_run rfl ?_
  refine hK _ _ _ (.inr (.inl (Imp.refl _))) H ?_
  clear hK K H
  try simp only [nrm]
  refine wpS_end (fun w H => ?_)
  clear hOps ops
  go_wp2_with fail
  go_ret
  exact ⟨by rw [← hres.out, HY.out]; rfl, H.tail⟩
theorem run_sfrom {P : Program} {t : TypeId} (ht : P.underlying t = some .string) {l : List (BitVec 8)} {i : Nat} {I : Int} (hI : I = (i : Int)) (h1 : i ≤ l.length) (w : World) : (Instr.slice t (.string (sB l)) (some (.int .i64 I)) none none).run P w = .ok (.string (sB (l.drop i))) w := by
 subst hI
 have h := run_slice_string_l (P := P) w t (sB l) ht .i64 (i : Int) (by omega) (by rw [sB_size]; omega)
 rw [h, sB_size]
 simp [sB_extract _ _ _ (Nat.le_refl _)]
section
variable {P : Program} {ρ : Operand → Value} {o : Oper} {t yt : TypeId} {x y : Operand} {u v : List (BitVec 8)}
theorem exec_sneq_f (ho : o.op = .binOp .neq t x y yt) (hx : ρ x = .string (sB u)) (hy : ρ y = .string (sB v)) (h : u = v) (w : World) : (execOp ρ o).run P w = .ok (.value (.bool false)) w := by
 rw [exec_sneq ho hx hy w]; simp [h]
end
end Go.Proofs.YtmflbekabkainaaGreatDoor
