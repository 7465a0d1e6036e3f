/-
  Chapter 11: what must be in any case.
-/
import Derived.Test.YtgdphamdbpkjdaaDoorBuild
import Derived.Test.YtgdphamdbpkjdaaDoorHgD
import Derived.Deep.Cut
namespace Go.Proofs.YtgdphamdbpkjdaaDoor
open Go.RowKit Go.Hg
set_option linter.unusedSimpArgs false
set_option linter.unusedVariables false
theorem built_keyA (w : World) : (Instr.build 29 #[(0, .int .u8 1)]).run Tryd.prog w = .ok (.agg (v8 keyA).toArray) w := run_build w _ _ _ (by kernel_rfl)
theorem built_keyB (w : World) : (Instr.build 29 #[(0, .int .u8 2)]).run Tryd.prog w = .ok (.agg (v8 keyB).toArray) w := run_build w _ _ _ (by kernel_rfl)
theorem built_nonA (w : World) : (Instr.build 32 #[(0, .int .u8 3)]).run Tryd.prog w = .ok (.agg (v8 hopA.nonce).toArray) w := run_build w _ _ _ (by kernel_rfl)
theorem built_nonB (w : World) : (Instr.build 32 #[(0, .int .u8 4)]).run Tryd.prog w = .ok (.agg (v8 hopB.nonce).toArray) w := run_build w _ _ _ (by kernel_rfl)
theorem built_body (w : World) : (Instr.build 24 #[(0, .int .u8 1), (1, .int .u8 2), (2, .int .u8 3)]).run Tryd.prog w = .ok (.agg (v8 bodyA).toArray) w := run_build w _ _ _ (by kernel_rfl)
theorem built_hopA (w : World) : (Instr.build 35 #[(0, .int .u16 1), (1, .int .u16 7), (2, .agg (v8 keyA).toArray), (4, .agg (v8 hopA.nonce).toArray), (6, .int .u64 9), (7, .int .u32 4)]).run Tryd.prog w = .ok (.agg hopA.cells.toArray) w := run_build w _ _ _ (by kernel_rfl)
theorem built_hopB (w : World) : (Instr.build 35 #[(0, .int .u16 2), (1, .int .u16 8), (2, .agg (v8 keyB).toArray), (4, .agg (v8 hopB.nonce).toArray), (5, .int .u64 5), (6, .int .u64 6)]).run Tryd.prog w = .ok (.agg hopB.cells.toArray) w := run_build w _ _ _ (by kernel_rfl)
theorem info_a256 : (Tryd.prog.info? 24).map (fun i => (i.zero, i.size, i.bytes)) = some (some (.agg (v8 (zs 256)).toArray), 256, 256) := by kernel_rfl
theorem flat_a256 : flatK Tryd.prog 4 24 = some (List.replicate 256 (.i .u8)) := by kernel_rfl
theorem cells_a256 : Tryd.prog.cellsOf 24 = (List.replicate 256 (LK.i .u8)).length := by kernel_rfl
theorem key_a256 : Tryd.prog.keyTypeAt 4 24 = true := by kernel_rfl
theorem guard_a256 : Tryd.prog.eqGuardType Tryd.prog.depth 24 = false := by kernel_rfl
theorem row_a256 : (match Tryd.prog.underlying 24 with | some (.struct _) => true | some (.array _ _) => true | _ => false) = true := by kernel_rfl
set_option maxRecDepth 10000 in
theorem eql_a256 {a b : List (BitVec 8)} (ha : a.length = 256) (hb : b.length = 256) (w : World) (o : Oper) (ρ : Operand → Value) (x y : Operand) (yt : TypeId) (ho : o.op = .binOp .eql 24 x y yt) (hx : ρ x = .agg (v8 a).toArray) (hy : ρ y = .agg (v8 b).toArray) : (execOp ρ o).run Tryd.prog w = .ok (.value (.bool (decide (a = b)))) w := by
  rw [← eqB_v8]
  exact exec_eql_flat ho hx hy (by omega) key_a256 row_a256 flat_a256 cells_a256 guard_a256 (fits_v8n ha) (fits_v8n hb)
theorem eql_same {a : List (BitVec 8)} (ha : a.length = 256) (w : World) (o : Oper) (ρ : Operand → Value) (x y : Operand) (yt : TypeId) (ho : o.op = .binOp .eql 24 x y yt) (hx : ρ x = .agg (v8 a).toArray) (hy : ρ y = .agg (v8 a).toArray) : (execOp ρ o).run Tryd.prog w = .ok (.value (.bool true)) w := by
  rw [eql_a256 ha ha w o ρ x y yt ho hx hy, decide_eq_true rfl]
theorem peel_is {w0 w : World} {F : List SP} {key : List (BitVec 8)} {p q : PktD} {s : SlotD} {e : Nat} {E : Int} (G : Glob w0) (H : At w0 F w) (hk : key.length = 32) (po : p.ok) (h : peelOf key p = (s, q, e)) (hE : (e : Int) = E) :
    Calls Tryd.prog 11 #[.agg (v8 key).toArray, .agg p.cells.toArray] w fun r w' => r = .returned (.tuple #[.agg s.cells.toArray, .agg q.cells.toArray, .int .i64 E]) ∧ At w0 F w' := by
  have c := peel_c G H hk po
  rw [h] at c
  subst hE
  exact c
theorem build_is {w0 w : World} {F : List SP} {v : Value} {hops : List HopO} {box : Nat} {body : List (BitVec 8)} {p : PktD} {B : Int} (G : Glob w0) (H : At w0 F w) (hv : SeeL 54 hopC w0 F v hops) (hb : body.length = 256) (hbox : box < 65536) (hB : (box : Int) = B) (h : buildOf (hops.map (·.1)) box body = some p) :
    Calls Tryd.prog 10 #[v, .int .u16 B, .agg (v8 body).toArray] w fun r w' => r = .returned (.tuple #[.agg p.cells.toArray, .int .i64 0]) ∧ At w0 F w' := by
  have c := build_c G H hv hb hbox
  rw [h] at c
  subst hB
  exact c
set_option maxRecDepth 10000 in
set_option maxHeartbeats 4000000 in
theorem shown_c {w0 w : World} {F : List SP} (G : Glob w0) (H : At w0 F w) : Calls Tryd.prog 9 #[] w fun r w' => r = .returned (.bool true) ∧ At w0 F w' := by
  obtain ⟨p, s, q, t, r, S0⟩ := shown_facts
  have hpl := Lib.hid (PktD.cells_length S0.po)
  have hql := Lib.hid (PktD.cells_length S0.qo)
  have hrl := Lib.hid (PktD.cells_length S0.ro)
  have hsl := Lib.hid (SlotD.cells_length S0.so.nonce S0.so.mac)
  have htl := Lib.hid (SlotD.cells_length S0.t_ok.nonce S0.t_ok.mac)
  obtain ⟨kA, hkA⟩ : ∃ k, k = keyA := ⟨_, rfl⟩
  obtain ⟨kB, hkB⟩ : ∃ k, k = keyB := ⟨_, rfl⟩
  obtain ⟨nA, hnA⟩ : ∃ k, k = hopA.nonce := ⟨_, rfl⟩
  obtain ⟨nB, hnB⟩ : ∃ k, k = hopB.nonce := ⟨_, rfl⟩
  obtain ⟨HA, hHA⟩ : ∃ k, k = hopA := ⟨_, rfl⟩
  obtain ⟨HB, hHB⟩ : ∃ k, k = hopB := ⟨_, rfl⟩
  obtain ⟨HZ, hHZ⟩ : ∃ k, k = hop0 := ⟨_, rfl⟩
  obtain ⟨bA, hbA⟩ : ∃ k, k = bodyA := ⟨_, rfl⟩
  obtain ⟨XS, hXS⟩ : ∃ k, k = hopsAB := ⟨_, rfl⟩
  have b1 := Lib.hid (show ∀ w, (Instr.build 29 #[(0, .int .u8 1)]).run Tryd.prog w = .ok (.agg (v8 kA).toArray) w by rw [hkA]; exact built_keyA)
  have b2 := Lib.hid (show ∀ w, (Instr.build 29 #[(0, .int .u8 2)]).run Tryd.prog w = .ok (.agg (v8 kB).toArray) w by rw [hkB]; exact built_keyB)
  have b3 := Lib.hid (show ∀ w, (Instr.build 32 #[(0, .int .u8 3)]).run Tryd.prog w = .ok (.agg (v8 nA).toArray) w by rw [hnA]; exact built_nonA)
  have b4 := Lib.hid (show ∀ w, (Instr.build 32 #[(0, .int .u8 4)]).run Tryd.prog w = .ok (.agg (v8 nB).toArray) w by rw [hnB]; exact built_nonB)
  have b5 := Lib.hid (show ∀ w, (Instr.build 35 #[(0, .int .u16 1), (1, .int .u16 7), (2, .agg (v8 kA).toArray), (4, .agg (v8 nA).toArray), (6, .int .u64 9), (7, .int .u32 4)]).run Tryd.prog w = .ok (.agg HA.cells.toArray) w by rw [hkA, hnA, hHA]; exact built_hopA)
  have b6 := Lib.hid (show ∀ w, (Instr.build 35 #[(0, .int .u16 2), (1, .int .u16 8), (2, .agg (v8 kB).toArray), (4, .agg (v8 nB).toArray), (5, .int .u64 5), (6, .int .u64 6)]).run Tryd.prog w = .ok (.agg HB.cells.toArray) w by rw [hkB, hnB, hHB]; exact built_hopB)
  have b7 := Lib.hid (show ∀ w, (Instr.build 24 #[(0, .int .u8 1), (1, .int .u8 2), (2, .int .u8 3)]).run Tryd.prog w = .ok (.agg (v8 bA).toArray) w by rw [hbA]; exact built_body)
  have hA := Lib.hid (show HA.cells.length = 54 by rw [hHA]; exact HopD.cells_length hopA_ok.key hopA_ok.nonce)
  have hB := Lib.hid (show HB.cells.length = 54 by rw [hHB]; exact HopD.cells_length hopB_ok.key hopB_ok.nonce)
  have hZ := Lib.hid (show HZ.cells.length = 54 by rw [hHZ]; rfl)
  have hZi := Lib.hid (show (Tryd.prog.info? 35).map (fun i => (i.zero, i.size, i.bytes)) = some (some (.agg HZ.cells.toArray), 54, 80) by rw [hHZ]; exact info_hop)
  have hC := Lib.hid (show bA.length = 256 by rw [hbA]; exact bodyA_length)
  have hKA := Lib.hid (show kA.length = 32 by rw [hkA]; exact keyA_length)
  have hKB := Lib.hid (show kB.length = 32 by rw [hkB]; exact keyB_length)
  have hxl := Lib.hid (show XS.length = 2 by rw [hXS]; rfl)
  have hxc := Lib.hid (show cl hopC XS = HA.cells ++ HB.cells by rw [hXS, hHA, hHB]; simp [cl, hopsAB, hopC])
  have hbl := Lib.hid (show buildOf (XS.map (·.1)) 77 bA = some p by rw [hXS, hbA, hopsAB_map]; exact S0.bld)
  obtain ⟨m0, ms, hm0⟩ : ∃ m0 ms, p.mac = m0 :: ms := by
    have := S0.po.mac
    cases h : p.mac with
    | nil => rw [h] at this; cases this
    | cons x xs => exact ⟨x, xs, rfl⟩
  obtain ⟨y, hy⟩ : ∃ y, y = m0 ^^^ 1 := ⟨_, rfl⟩
  have e1 : bits .xor .u8 (iv m0) 1 = iv y := by rw [hy]; exact iv_xor8 m0 1
  have hyn : y :: ms ≠ p.mac := by
    rw [hm0, hy]
    intro e
    have := (List.cons.inj e).1
    revert this
    generalize m0 = z
    revert z
    decide
  obtain ⟨pm, hpm⟩ : ∃ k : PktD, k = { p with mac := y :: ms } := ⟨_, rfl⟩
  have hpmo : pm.ok := by
    rw [hpm]
    exact ⟨S0.po.who, S0.po.epoch, S0.po.nonce, by have := S0.po.mac; rw [hm0] at this; simpa using this, S0.po.head, S0.po.body⟩
  have HPMO := Lib.hid hpmo
  have hpml := Lib.hid (PktD.cells_length hpmo)
  have hset := Lib.hid (show p.cells.toArray.setIfInBounds 18 (.int .u8 (iv y)) = pm.cells.toArray by
    rw [hpm]
    exact pkt_mac0 S0.po hm0)
  have hc18 := Lib.hid (show p.cells.toArray[18]? = some (.int .u8 (iv m0)) from pkt_at18 S0.po hm0)
  have hbad := Lib.hid (show peelOf kA pm = (SlotD.zero, PktD.zero, 4) by rw [hkA, hpm]; exact S0.bad _ hyn)
  have hs0 := Lib.hid (show s.cells.toArray[0]? = some (.bool false) from (slot_at0 s).trans (by rw [S0.last]))
  have hs1 := Lib.hid (show s.cells.toArray[1]? = some (.int .u16 2) from (slot_at1 s).trans (by rw [S0.next]; rfl))
  have hs39 := Lib.hid (show s.cells.toArray[39]? = some (.int .u32 4) from (slot_at39 S0.so).trans (by rw [S0.delay]; rfl))
  have hs38 := Lib.hid (show s.cells.toArray[38]? = some (.int .u64 9) from (slot_at38 S0.so).trans (by rw [S0.hi]; rfl))
  have ht0 := Lib.hid (show t.cells.toArray[0]? = some (.bool true) from (slot_at0 t).trans (by rw [S0.tlast]))
  have ht2 := Lib.hid (show t.cells.toArray[2]? = some (.int .u16 77) from (slot_at2 t).trans (by rw [S0.box]; rfl))
  have ht37 := Lib.hid (show t.cells.toArray[37]? = some (.int .u64 5) from (slot_at37 S0.t_ok).trans (by rw [S0.lo]; rfl))
  have hbody := Lib.hid (show (r.cells.drop 354).take 256 = v8 bA by rw [PktD.part_body S0.ro, S0.body, hbA])
  have po := Lib.hid S0.po
  have qo := Lib.hid S0.qo
  have zpl := Lib.hid (PktD.cells_length PktD.zero_ok)
  have zsl := Lib.hid (SlotD.cells_length SlotD.zero_ok.nonce SlotD.zero_ok.mac)
  have h1 := Lib.hid (show peelOf kA p = (s, q, 0) by rw [hkA]; exact S0.one)
  have h2 := Lib.hid (show peelOf kB q = (t, r, 0) by rw [hkB]; exact S0.two)
  clear S0 hy hyn hpm hpmo hm0 hkA hkB hnA hnB hHA hHB hHZ hbA hXS
  go_enter Tryd.func9, Tryd.ntmps9
  go_wp2_with ((with_reducible refine wpList_op rfl ?_); intro _ hK; first
    | (refine dst_is 15 rfl ?_; refine Hg.wp_build 29 ?pp1 ?ho1 ?hp1 (b1.out _) ?hk1; (case ho1 => rfl); (case hp1 => (rw [Array.toList_map]; rfl)); refine hK _ _ ?_)
    | (refine dst_is 16 rfl ?_; refine Hg.wp_build 32 ?pp2 ?ho2 ?hp2 (b3.out _) ?hk2; (case ho2 => rfl); (case hp2 => (rw [Array.toList_map]; rfl)); refine hK _ _ ?_)
    | (refine dst_is 17 rfl ?_; refine Hg.wp_build 35 ?pp3 ?ho3 ?hp3 (b5.out _) ?hk3; (case ho3 => rfl); (case hp3 => (rw [Array.toList_map]; rfl)); refine hK _ _ ?_)
    | (refine dst_is 1 rfl ?_; refine wp_alloc_sl 35 rfl hZi.out H (fun A w' (H : At w0 (raw A HZ.cells.toArray 35 :: F) w') _ => hK _ _ ?_))
    | (refine sto_is 1 rfl ?_; refine wp_store_row_sl 35 _ _ rfl (b := A) (cells := HA.cells.toArray) rfl rfl (by rw [List.size_toArray, hA.out]; exact size_hop) (by simpa using HopD.cells_one) 0 H rfl (by rw [List.size_toArray, List.size_toArray, hA.out, hZ.out]) (fun w' (H : At w0 (raw A HA.cells.toArray 35 :: F) w') => hK _ _ (Stop.go ?_))))
  refine Stop.un ?_
  go_wp2_with ((with_reducible refine wpList_op rfl ?_); intro _ hK; first
    | (refine dst_is 18 rfl ?_; refine Hg.wp_build 29 ?pp4 ?ho4 ?hp4 (b2.out _) ?hk4; (case ho4 => rfl); (case hp4 => (rw [Array.toList_map]; rfl)); refine hK _ _ ?_)
    | (refine dst_is 19 rfl ?_; refine Hg.wp_build 32 ?pp5 ?ho5 ?hp5 (b4.out _) ?hk5; (case ho5 => rfl); (case hp5 => (rw [Array.toList_map]; rfl)); refine hK _ _ ?_)
    | (refine dst_is 20 rfl ?_; refine Hg.wp_build 35 ?pp6 ?ho6 ?hp6 (b6.out _) ?hk6; (case ho6 => rfl); (case hp6 => (rw [Array.toList_map]; rfl)); refine hK _ _ ?_)
    | (refine dst_is 2 rfl ?_; refine wp_alloc_sl 35 rfl hZi.out H (fun B w' (H : At w0 (raw B HZ.cells.toArray 35 :: raw A HA.cells.toArray 35 :: F) w') _ => hK _ _ ?_))
    | (refine sto_is 2 rfl ?_; refine wp_store_row_sl 35 _ _ rfl (b := B) (cells := HB.cells.toArray) rfl rfl (by rw [List.size_toArray, hB.out]; exact size_hop) (by simpa using HopD.cells_one) 0 H rfl (by rw [List.size_toArray, List.size_toArray, hB.out, hZ.out]) (fun w' (H : At w0 (raw B HB.cells.toArray 35 :: raw A HA.cells.toArray 35 :: F) w') => hK _ _ (Stop.go ?_))))
  refine Stop.un ?_
  go_wp2_with ((with_reducible refine wpList_op rfl ?_); intro _ hK; first
    | (refine dst_is 21 rfl ?_; refine Hg.wp_build 24 ?pp7 ?ho7 ?hp7 (b7.out _) ?hk7; (case ho7 => rfl); (case hp7 => (rw [Array.toList_map]; rfl)); refine hK _ _ ?_)
    | (refine dst_is 3 rfl ?_; refine wp_alloc_sl 24 rfl info_a256 H (fun C w' (H : At w0 (raw C (v8 (zs 256)).toArray 24 :: raw B HB.cells.toArray 35 :: raw A HA.cells.toArray 35 :: F) w') _ => hK _ _ ?_))
    | (refine sto_is 3 rfl ?_; refine wp_sta 24 _ _ rfl (b := C) (bs := zs 256) (cs := bA) rfl rfl (by rw [hC.out]; exact size_a256) 0 H rfl (by rw [hC.out, zs_length]) (fun w' (H : At w0 (raw C (v8 bA).toArray 24 :: raw B HB.cells.toArray 35 :: raw A HA.cells.toArray 35 :: F) w') => hK _ _ (Stop.go ?_))))
  refine Stop.un ?_
  go_wp2_with ((with_reducible refine wpList_op rfl ?_); intro _ hK; first
    | (refine dst_is 23 rfl ?_; refine wp_mid 35 _ rfl (b := A) (off := 0) rfl HA.cells (by kernel_rfl) (by rw [hA.out]; exact size_hop) (at_blk H 2 rfl) (hK _ _ ?_))
    | (refine dst_is 24 rfl ?_; refine wp_mid 35 _ rfl (b := B) (off := 0) rfl HB.cells (by kernel_rfl) (by rw [hB.out]; exact size_hop) (at_blk H 1 rfl) (hK _ _ ?_))
    | (refine dst_is 25 rfl ?_; refine wp_listn 22 under_hops hZi.out _ _ rfl [.agg HA.cells.toArray, .agg HB.cells.toArray] rfl (by decide) (by decide) (by rw [Array.toList_map]; rfl) (by intro v hv; simp at hv; rcases hv with rfl | rfl <;> simp [Value.cells, hA.out, hB.out]) H (fun D w' H => ?_); rw [show ([.agg HA.cells.toArray, .agg HB.cells.toArray] : List Value).flatMap (fun v => v.cells.toList) = cl hopC XS by rw [hxc.out]; simp [Value.cells]] at H; replace H : At w0 (raw D (cl hopC XS).toArray 35 :: raw C (v8 bA).toArray 24 :: F) w' := H.maskR [true, true, false, false]; refine hK _ _ ?_)
    | (refine dst_is 26 rfl ?_; refine wp_lda 24 _ rfl (b := C) (bs := bA) rfl (by kernel_rfl) (by rw [hC.out]; exact size_a256) 1 H rfl (hK _ _ ?_)))
  refine (build_is (hops := XS) (box := 77) (body := bA) G H (show SeeL 54 hopC w0 _ (.slice (some ⟨D, 0, none⟩) 2 2) XS from hxl.out ▸ see_raw (c := hopC) (cap := XS.length) (xs := XS) 0 rfl (by rw [hxl.out]; omega) (by rw [List.drop_zero, List.take_length])) hC.out (by omega) rfl hbl.out).mono ?_; rintro e w' ⟨rfl, H⟩
  replace H := H.tail
  go_wp2_with ((with_reducible refine wpList_op rfl ?_); intro _ hK; first
    | (refine dst_is 4 rfl ?_; refine wp_alloc_sl 39 rfl info_pkt H (fun P w' (H : At w0 (raw P PktD.zero.cells.toArray 39 :: raw C (v8 bA).toArray 24 :: F) w') _ => hK _ _ ?_))
    | (refine sto_is 4 rfl ?_; refine wp_store_row_sl 39 _ _ rfl (b := P) (cells := p.cells.toArray) rfl rfl (by rw [List.size_toArray, hpl.out]; exact size_pkt) (by simpa using PktD.cells_one) 0 H rfl (by rw [List.size_toArray, List.size_toArray, hpl.out, zpl.out]) (fun w' (H : At w0 (raw P p.cells.toArray 39 :: raw C (v8 bA).toArray 24 :: F) w') => hK _ _ (Stop.go ?_))))
  refine Stop.un ?_
  go_wp2_with ((with_reducible refine wpList_op rfl ?_); intro _ hK; first
    | (refine dst_is 31 rfl ?_; refine Hg.wp_build 29 ?pp8 ?ho8 ?hp8 (b1.out _) ?hk8; (case ho8 => rfl); (case hp8 => (rw [Array.toList_map]; rfl)); refine hK _ _ ?_)
    | (refine dst_is 32 rfl ?_; refine wp_mid 39 _ rfl (b := P) (off := 0) rfl p.cells (by kernel_rfl) (by rw [hpl.out]; exact size_pkt) (at_blk H 0 rfl) (hK _ _ ?_)))
  refine (peel_is G H hKA.out po.out h1.out rfl).mono ?_; rintro e w' ⟨rfl, H⟩
  go_wp2_with ((with_reducible refine wpList_op rfl ?_); intro _ hK; first
    | (refine dst_is 6 rfl ?_; refine wp_alloc_sl 45 rfl info_slot H (fun S1 w' (H : At w0 (raw S1 SlotD.zero.cells.toArray 45 :: raw P p.cells.toArray 39 :: raw C (v8 bA).toArray 24 :: F) w') _ => hK _ _ ?_))
    | (refine dst_is 7 rfl ?_; refine wp_alloc_sl 39 rfl info_pkt H (fun Q1 w' (H : At w0 (raw Q1 PktD.zero.cells.toArray 39 :: raw S1 SlotD.zero.cells.toArray 45 :: raw P p.cells.toArray 39 :: raw C (v8 bA).toArray 24 :: F) w') _ => hK _ _ ?_))
    | (refine sto_is 6 rfl ?_; refine wp_store_row_sl 45 _ _ rfl (b := S1) (cells := s.cells.toArray) rfl rfl (by rw [List.size_toArray, hsl.out]; exact size_slot) (by simpa using SlotD.cells_one) 1 H rfl (by rw [List.size_toArray, List.size_toArray, hsl.out, zsl.out]) (fun w' (H : At w0 (raw Q1 PktD.zero.cells.toArray 39 :: raw S1 s.cells.toArray 45 :: raw P p.cells.toArray 39 :: raw C (v8 bA).toArray 24 :: F) w') => hK _ _ ?_))
    | (refine sto_is 7 rfl ?_; refine wp_store_row_sl 39 _ _ rfl (b := Q1) (cells := q.cells.toArray) rfl rfl (by rw [List.size_toArray, hql.out]; exact size_pkt) (by simpa using PktD.cells_one) 0 H rfl (by rw [List.size_toArray, List.size_toArray, hql.out, zpl.out]) (fun w' (H : At w0 (raw Q1 q.cells.toArray 39 :: raw S1 s.cells.toArray 45 :: raw P p.cells.toArray 39 :: raw C (v8 bA).toArray 24 :: F) w') => hK _ _ (Stop.go ?_))))
  refine Stop.un ?_
  go_wp2_with ((with_reducible refine wpList_op rfl ?_); intro _ hK; first
    | (refine dst_is 38 rfl ?_; refine Hg.wp_build 29 ?pp9 ?ho9 ?hp9 (b2.out _) ?hk9; (case ho9 => rfl); (case hp9 => (rw [Array.toList_map]; rfl)); refine hK _ _ ?_)
    | (refine dst_is 39 rfl ?_; refine wp_mid 39 _ rfl (b := Q1) (off := 0) rfl q.cells (by kernel_rfl) (by rw [hql.out]; exact size_pkt) (at_blk H 0 rfl) (hK _ _ ?_)))
  refine (peel_is G H hKB.out qo.out h2.out rfl).mono ?_; rintro e w' ⟨rfl, H⟩
  replace H : At w0 (raw S1 s.cells.toArray 45 :: raw P p.cells.toArray 39 :: raw C (v8 bA).toArray 24 :: F) w' := H.tail
  go_wp2_with ((with_reducible refine wpList_op rfl ?_); intro _ hK; first
    | (refine dst_is 9 rfl ?_; refine wp_alloc_sl 45 rfl info_slot H (fun S2 w' (H : At w0 (raw S2 SlotD.zero.cells.toArray 45 :: raw S1 s.cells.toArray 45 :: raw P p.cells.toArray 39 :: raw C (v8 bA).toArray 24 :: F) w') _ => hK _ _ ?_))
    | (refine dst_is 10 rfl ?_; refine wp_alloc_sl 39 rfl info_pkt H (fun Q2 w' (H : At w0 (raw Q2 PktD.zero.cells.toArray 39 :: raw S2 SlotD.zero.cells.toArray 45 :: raw S1 s.cells.toArray 45 :: raw P p.cells.toArray 39 :: raw C (v8 bA).toArray 24 :: F) w') _ => hK _ _ ?_))
    | (refine sto_is 9 rfl ?_; refine wp_store_row_sl 45 _ _ rfl (b := S2) (cells := t.cells.toArray) rfl rfl (by rw [List.size_toArray, htl.out]; exact size_slot) (by simpa using SlotD.cells_one) 1 H rfl (by rw [List.size_toArray, List.size_toArray, htl.out, zsl.out]) (fun w' (H : At w0 (raw Q2 PktD.zero.cells.toArray 39 :: raw S2 t.cells.toArray 45 :: raw S1 s.cells.toArray 45 :: raw P p.cells.toArray 39 :: raw C (v8 bA).toArray 24 :: F) w') => hK _ _ ?_))
    | (refine sto_is 10 rfl ?_; refine wp_store_row_sl 39 _ _ rfl (b := Q2) (cells := r.cells.toArray) rfl rfl (by rw [List.size_toArray, hrl.out]; exact size_pkt) (by simpa using PktD.cells_one) 0 H rfl (by rw [List.size_toArray, List.size_toArray, hrl.out, zpl.out]) (fun w' (H : At w0 (raw Q2 r.cells.toArray 39 :: raw S2 t.cells.toArray 45 :: raw S1 s.cells.toArray 45 :: raw P p.cells.toArray 39 :: raw C (v8 bA).toArray 24 :: F) w') => hK _ _ (Stop.go ?_))))
  refine Stop.un ?_
  go_wp2_with ((with_reducible refine wpList_op rfl ?_); intro _ hK; first
    | (refine dst_is 46 rfl ?_; refine wp_get 5 _ rfl rfl (by kernel_rfl) (v := .int .u8 (iv m0)) ((raw_cell (H.heap 3 rfl) _).trans hc18.out) (hK _ _ ?_))
    | (refine sto_is 49 rfl ?_; refine wp_store_sl 5 _ _ rfl (b := P) (off := 18) (v := .int .u8 (iv y)) rfl rfl (by kernel_rfl) rfl 3 H rfl (by rw [List.size_toArray, hpl.out]; omega) (fun w' H => ?_); rw [hset.out] at H; replace H : At w0 (raw Q2 r.cells.toArray 39 :: raw S2 t.cells.toArray 45 :: raw S1 s.cells.toArray 45 :: raw P pm.cells.toArray 39 :: raw C (v8 bA).toArray 24 :: F) w' := H; refine hK _ _ (Stop.go ?_)))
  refine Stop.un ?_
  go_wp2_with ((with_reducible refine wpList_op rfl ?_); intro _ hK; first
    | (refine dst_is 51 rfl ?_; refine Hg.wp_build 29 ?pp10 ?ho10 ?hp10 (b1.out _) ?hk10; (case ho10 => rfl); (case hp10 => (rw [Array.toList_map]; rfl)); refine hK _ _ ?_)
    | (refine dst_is 52 rfl ?_; refine wp_mid 39 _ rfl (b := P) (off := 0) rfl pm.cells (by kernel_rfl) (by rw [hpml.out]; exact size_pkt) (at_blk H 3 rfl) (hK _ _ ?_)))
  refine (peel_is G H hKA.out HPMO.out hbad.out rfl).mono ?_; rintro e w' ⟨rfl, H⟩
  replace H : At w0 (raw Q2 r.cells.toArray 39 :: raw S2 t.cells.toArray 45 :: raw S1 s.cells.toArray 45 :: raw C (v8 bA).toArray 24 :: F) w' := H.maskR [true, true, true, false]
  go_wp2_with ((first | (with_reducible refine wpList_op rfl ?_) | (refine wpList_opif (by rfl) ?_)); intro _ hK; first
    | (refine dst_is 12 rfl ?_; refine wp_alloc_sl 45 rfl info_slot H (fun S3 w' (H : At w0 (raw S3 SlotD.zero.cells.toArray 45 :: raw Q2 r.cells.toArray 39 :: raw S2 t.cells.toArray 45 :: raw S1 s.cells.toArray 45 :: raw C (v8 bA).toArray 24 :: F) w') _ => hK _ _ ?_))
    | (refine dst_is 13 rfl ?_; refine wp_alloc_sl 39 rfl info_pkt H (fun Q3 w' (H : At w0 (raw Q3 PktD.zero.cells.toArray 39 :: raw S3 SlotD.zero.cells.toArray 45 :: raw Q2 r.cells.toArray 39 :: raw S2 t.cells.toArray 45 :: raw S1 s.cells.toArray 45 :: raw C (v8 bA).toArray 24 :: F) w') _ => hK _ _ ?_))
    | (refine sto_is 12 rfl ?_; refine wp_store_row_sl 45 _ _ rfl (b := S3) (cells := SlotD.zero.cells.toArray) rfl rfl (by rw [List.size_toArray, zsl.out]; exact size_slot) (by simpa using SlotD.cells_one) 1 H rfl rfl (fun w' H => ?_); replace H : At w0 (raw Q3 PktD.zero.cells.toArray 39 :: raw Q2 r.cells.toArray 39 :: raw S2 t.cells.toArray 45 :: raw S1 s.cells.toArray 45 :: raw C (v8 bA).toArray 24 :: F) w' := H.maskR [true, false]; refine hK _ _ ?_)
    | (refine sto_is 13 rfl ?_; refine wp_store_row_sl 39 _ _ rfl (b := Q3) (cells := PktD.zero.cells.toArray) rfl rfl (by rw [List.size_toArray, zpl.out]; exact size_pkt) (by simpa using PktD.cells_one) 0 H rfl rfl (fun w' H => ?_); replace H : At w0 (raw Q2 r.cells.toArray 39 :: raw S2 t.cells.toArray 45 :: raw S1 s.cells.toArray 45 :: raw C (v8 bA).toArray 24 :: F) w' := H.maskR [false]; refine hK _ _ ?_)
    | (refine dst_is 73 rfl ?_; refine wp_get 4 _ rfl rfl (by kernel_rfl) (v := .bool false) ((raw_cell (H.heap 2 rfl) _).trans hs0.out) (hK _ _ ?_))
    | (refine dst_is 78 rfl ?_; refine wp_get 26 _ rfl rfl (by kernel_rfl) (v := .int .u16 2) ((raw_cell (H.heap 2 rfl) _).trans hs1.out) (hK _ _ ?_))
    | (refine dst_is 83 rfl ?_; refine wp_get 30 _ rfl rfl (by kernel_rfl) (v := .int .u32 4) ((raw_cell (H.heap 2 rfl) _).trans hs39.out) (hK _ _ ?_))
    | (refine dst_is 88 rfl ?_; refine wp_get 33 _ rfl rfl (by kernel_rfl) (v := .int .u64 9) ((raw_cell (H.heap 2 rfl) _).trans hs38.out) (hK _ _ ?_))
    | (refine dst_is 93 rfl ?_; refine wp_get 4 _ rfl rfl (by kernel_rfl) (v := .bool true) ((raw_cell (H.heap 1 rfl) _).trans ht0.out) (hK _ _ ?_))
    | (refine dst_is 97 rfl ?_; refine wp_get 43 _ rfl rfl (by kernel_rfl) (v := .int .u16 77) ((raw_cell (H.heap 1 rfl) _).trans ht2.out) (hK _ _ ?_))
    | (refine dst_is 102 rfl ?_; refine wp_get 33 _ rfl rfl (by kernel_rfl) (v := .int .u64 5) ((raw_cell (H.heap 1 rfl) _).trans ht37.out) (hK _ _ ?_))
    | (refine dst_is 107 rfl ?_; refine wp_mid 24 _ rfl (b := Q2) (off := 354) rfl (v8 bA) (by kernel_rfl) (by rw [v8_length, hC.out]; exact size_a256) (at_part H 0 rfl (by rw [v8_length, hC.out]; exact hbody.out)) (hK _ _ ?_))
    | (refine dst_is 108 rfl ?_; refine wp_lda 24 _ rfl (b := C) (bs := bA) rfl (by kernel_rfl) (by rw [hC.out]; exact size_a256) 3 H rfl (hK _ _ ?_))
    | (refine dst_is 109 rfl ?_; refine wp_run (eql_same hC.out _ _ _ _ _ _ rfl rfl rfl) (hK _ _ ?_)))
  exact ⟨rfl, _, results_tmp rfl _ _ _, rfl, H.maskR [false, false, false, false]⟩
end Go.Proofs.YtgdphamdbpkjdaaDoor
