import Derived.Test.YtmflbekabkainaaGreatDoorQNHeapB
import Derived.Test.YtmflbekabkainaaGreatDoorQHgC
set_option linter.unusedVariables false
set_option linter.unusedSimpArgs false
namespace Go.Proofs.YtmflbekabkainaaGreatDoor
open Go.RowKit Go.Hg
theorem info_wt : (Tryz.prog.info? 91).map (fun i => (i.zero, i.size, i.bytes)) = some (some (.agg Wt.zero.cells.toArray), 650, 688) := by kernel_rfl
theorem size_wt : (Tryz.prog.info? 91).map (·.size) = some 650 := by kernel_rfl
theorem places_thW : placesOf Tryz.prog 167 = some (thW (0, 0, default), [(0, 1), (1, 1), (2, 650)]) := by kernel_rfl
theorem built_thW (t n : Int) (x : WtO) (w : World) : (Instr.build 167 [(0, Value.int .u64 t), (1, Value.int .u64 n), (2, .agg x.1.cells.toArray)].toArray).run Tryz.prog w = .ok (.agg (thW (t, n, x)).toArray) w := by
 refine run_buildL places_thW [(0, Value.int .u64 t), (1, Value.int .u64 n), (2, .agg x.1.cells.toArray)] ?_ w
 have h1 : x.1.cells.length = 650 := Wt.cells_length x.2
 have h2 : (default : WtO).1.cells.length = 650 := Wt.cells_length (default : WtO).2
 show buildL _ (thW (0, 0, default)) [(0, [Value.int .u64 t]), (1, [Value.int .u64 n]), (2, x.1.cells)] = some (thW (t, n, x))
 unfold thW
 simp only [buildL, List.getElem?_cons_zero, List.getElem?_cons_succ]
 rw [if_pos (by simp [h2])]
 simp only [List.take_zero, List.nil_append, List.length_singleton, Nat.zero_add]
 rw [if_pos (by simp [h2])]
 rw [if_pos (by simp [h1, h2]), h1]
 simp [h2]
theorem one_wt (x : WtO) : ∀ u ∈ x.1.cells, u.oneCell' = true := Wt.cells_one x.1
set_option maxRecDepth 10000 in
set_option maxHeartbeats 4000000 in
theorem pushW_c {w0 w : World} {F : List SP} {p : Nat} {most nx : Int} {S : List Thing} (H : At w0 (heapW p most nx S :: F) w) (tick : Int) (x : WtO) (h0 : (S.length : Int) < most) (hn0 : 0 ≤ nx) (hn1 : nx + 1 < 18446744073709551616) (hS : S.length ≤ 100000) :
    Calls Tryz.prog 58 #[.pointer (some ⟨p, 0, none⟩), .int .u64 tick, .agg x.1.cells.toArray] w fun e w' => (∃ v, e = .returned v) ∧ At w0 (heapW p most (nx + 1) (S ++ [(tick, nx, x)]) :: F) w' := by
 obtain ⟨a, cap, l, ho, hp, H2⟩ := heapW_open H
 unfold hdW at H2
 have hl : (l.length : Int) < most := by rw [hp.length_eq]; exact h0
 have hl6 : (l.length : Int) ≤ 100000 := by have := hp.length_eq; omega
 have hl7 : ¬ most ≤ (l.length : Int) := by omega
 have HO := Lib.hid ho
 have HP := Lib.hid hp
 have hwl := Lib.hid (Wt.cells_length x.2)
 replace H := H2
 clear hp ho H2
 have hw1 : IntKind.u64.wrap (nx + 1) = nx + 1 := by rw [IntKind.wrap_u64]; omega
 go_enter Tryz.func58, Tryz.ntmps58
 go_wp2_with ((with_reducible refine wpList_op rfl ?_); intro _ hK; (refine dst_is 5 rfl ?_; refine wp_box_sl (v := .agg x.1.cells.toArray) 91 _ rfl rfl H (fun X w' (H : At w0 (raw X x.1.cells.toArray 91 :: _) w') _ => hK _ _ ?_)))
 refine wpM_begin [] ((At w0 (raw X x.1.cells.toArray 91 :: raw p #[.int .i64 most, .slice a l.length cap, .int .u64 nx] 128 :: lrow 167 652 thW (.slice a l.length cap) l :: F))) [(0, 2), (1, 2), (2, 2), (3, 1), (4, 2), (5, 2), (6, 2), (7, 2), (8, 1), (9, 2)] rfl (by kernel_rfl) (by kernel_rfl) ((H.drew)) ?_
 intro ops hOps hS
 replace H := H.drew
 iterate 3 refine fm hOps ?_
 refine tm hOps hS (fun w hw => raw_at (hw.heap 1 rfl) rfl) ?_
 iterate 4 refine fm hOps ?_
 refine tm hOps hS (fun w hw => raw_at (hw.heap 1 rfl) rfl) ?_
 refine fm hOps ?_
 refine wpM_end ?_
 clear hOps hS ops
 go_wp2_with ((with_reducible refine wpList_op rfl ?_); intro _ hK; first
  | (refine dst_is 22 rfl ?_; refine wp_get 22 _ rfl rfl (by kernel_rfl) (raw_at (H.heap 1 rfl) rfl) (hK _ _ ?_))
  | (refine dst_is 26 rfl ?_; refine wp_get 22 _ rfl rfl (by kernel_rfl) (raw_at (H.heap 1 rfl) rfl) (hK _ _ ?_))
  | (refine sto_is 29 rfl ?_; refine wp_store_sl 22 _ _ rfl (off := 2) (v := .int .u64 (nx + 1)) rfl rfl (by kernel_rfl) rfl 1 H rfl (by simp) (fun w' (H : At w0 (raw X x.1.cells.toArray 91 :: raw p #[.int .i64 most, .slice a l.length cap, .int .u64 (nx + 1)] 128 :: lrow 167 652 thW (.slice a l.length cap) l :: F) w') => hK _ _ (Stop.go ?_))))
 refine Stop.un ?_
 go_wp2_with fail
 refine wpM_begin [13] ((At w0 (raw X x.1.cells.toArray 91 :: raw p #[.int .i64 most, .slice a l.length cap, .int .u64 (nx + 1)] 128 :: F))) [(0, 2), (1, 2), (2, 2), (3, 2), (4, 1), (5, 2), (6, 2), (7, 1), (8, 2), (9, 0), (10, 0), (11, 2), (12, 2), (13, 0)] rfl (by kernel_rfl) (by kernel_rfl) ((H.drew.maskR [true, true, false])) ?_
 intro ops hOps hS
 replace H := H.drew
 iterate 4 refine fm hOps ?_
 refine tm hOps hS (fun w hw => raw_at (hw.heap 1 rfl) rfl) ?_
 iterate 2 refine fm hOps ?_
 refine wpM_take hOps hS rfl (fun _ _ _ h => h) (yl_mid rfl 91 _ rfl rfl x.1.cells (by kernel_rfl) (by rw [hwl.out]; exact size_wt) (fun w hw => at_blk hw 0 rfl)) ?_
 simp only [nrm]
 refine wpM_free hOps rfl (fun _ _ _ h => h) (yl_build rfl 167 _ rfl (by rw [Array.toList_map]; rfl) (built_thW tick nx x)) ?_
 simp only [nrm]
 refine wpM_next hOps rfl rfl ?_
 intro K hK
 refine wp_lbuild el_thW (y := (tick, nx, x)) _ under_thingsW _ rfl rfl rfl (by omega) (by omega) H (fun C w' H => ?_)
 have hS := ((H.maskR [false, true, true, false]))
 refine hK _ _ (.inr hS) ?_
 clear hK K
 simp only [nrm]
 refine wpM_next hOps rfl rfl ?_
 intro K hK
 refine wp_lapp_one el_thW (y := (tick, nx, x)) _ under_thingsW _ _ rfl rfl (H.pull 3 rfl) rfl 0 rfl rfl (by simp only [maxLen]; omega) (by omega) (fun bb cc w' H => ?_)
 have hS := ((H.maskR [false, false, true, true]))
 refine hK _ _ (.inr hS) ?_
 clear hK K
 simp only [nrm]
 iterate 2 refine fm hOps ?_
 refine wpM_next hOps rfl rfl ?_
 intro K hK
 refine wp_store_sl 126 _ _ rfl (off := 1) (v := .slice bb (l ++ [(tick, nx, x)]).length cc) rfl rfl (by kernel_rfl) rfl 3 H rfl (by simp) (fun w' H => ?_)
 refine hK _ _ (.inl (by decide)) ?_
 clear hK K
 simp only [nrm]
 refine wpM_end ?_
 clear hOps hS ops
 go_wp2_with ((with_reducible refine wpList_op rfl ?_); intro _ hK; (refine dst_is 47 rfl ?_; refine wp_get 126 _ rfl rfl (by kernel_rfl) (raw_at (H.heap 3 rfl) rfl) (hK _ _ ?_)))
 have H2 : At w0 (hdW p most (nx + 1) bb (l ++ [(tick, nx, x)]).length cc :: lrow 167 652 thW (.slice bb (l ++ [(tick, nx, x)]).length cc) (l ++ [(tick, nx, x)]) :: _) _ := H.pull 3 rfl
 refine (upW_c H2 l.length (by simp) (by simp; omega) (HO.out.push _)).mono ?_; rintro e w' ⟨v, l2, rfl, hp2, ho2, H⟩
 have HO2 := Lib.hid ho2
 have HP2 := Lib.hid hp2
 clear ho2 hp2
 go_wp2_with fail
 go_ret2
 exact ⟨⟨_, rfl⟩, heapW_shut HO2.out (HP2.out.trans (HP.out.append_right _)) (H.maskR [true, true, false, false])⟩
theorem zero_thW (w : World) : (zeroValue 167).run Tryz.prog w = .ok (.agg (thW (0, 0, default)).toArray) w := by kernel_rfl
theorem zcells_thW : (Builtin.zeroCells (Value.agg (thW (0, 0, default)).toArray).cells 1).toList = thW (0, 0, default) := by
 have h : (thW (0, 0, default)).length = 652 := thW_length _
 refine List.ext_getElem? fun i => ?_
 simp only [Builtin.zeroCells, Value.cells, List.size_toArray, h, Nat.one_mul, Array.toList_map, Array.toList_range, List.getElem?_map, List.getElem?_range]
 by_cases hi : i < 652
 · simp [hi, Nat.mod_eq_of_lt hi, h]
 · simp [hi, h]
theorem results_row_tmp2 {P : Program} {fn : Func} {w : World} {p u v2 : Tmp} {ty : TypeId} (h : fn.results = #[.cell p ty, .tmp u, .tmp v2]) (tmps : Array Value) {b : Nat} {cells : List Value} (hp : tmps.getD p undef = .pointer (some ⟨b, 0, none⟩)) (hr : w.rangeAt b 0 cells) (hk : rowType P ty = true) (hi : (P.info? ty).map (·.size) = some cells.length) {v y : Value} (hu : tmps.getD u undef = v) (hy : tmps.getD v2 undef = y) :
    (results fn tmps).run P w = .ok (.tuple #[.agg cells.toArray, v, y]) w := by
 have h1 := rd_row hr hk hi
 have hp' : tmps[p]?.getD undef = .pointer (some ⟨b, 0, none⟩) := by simpa using hp
 have hu' : tmps[u]?.getD undef = v := by simpa using hu
 have hy' : tmps[v2]?.getD undef = y := by simpa using hy
 simp [results, h, hp', hu', hy', asAddr, h1, Result.andThen]
theorem range_sub {w : World} {b off j n : Nat} {xs ys : List Value} (h : w.rangeAt b off xs) (e : (xs.drop j).take n = ys) : w.rangeAt b (off + j) ys := fun k u hk => by
 subst e
 rw [List.getElem?_take] at hk
 split at hk
 · rw [List.getElem?_drop] at hk
   have := h (j + k) u hk
   rwa [← Nat.add_assoc] at this
 · cases hk
set_option maxRecDepth 10000 in
set_option maxHeartbeats 400000 in
theorem popW_none {w0 w : World} {F : List SP} {p : Nat} {most nx : Int} {S : List Thing} (H : At w0 (heapW p most nx S :: F) w) (now : Int) (h0 : S.length = 0) :
    Calls Tryz.prog 41 #[.pointer (some ⟨p, 0, none⟩), .int .u64 now] w fun e w' => e = .returned (.tuple #[.agg (default : WtO).1.cells.toArray, .int .u64 0, .bool false]) ∧ At w0 (heapW p most nx S :: F) w' := by
 have hz := Lib.hid (Wt.cells_length (default : WtO).2)
 go_enter Tryz.func41, Tryz.ntmps41
 go_wp2_with ((with_reducible refine wpList_op rfl ?_); intro _ hK; (refine dst_is 4 rfl ?_; refine wp_alloc_sl 91 rfl info_wt H (fun X w' (H : At w0 (raw X (default : WtO).1.cells.toArray 91 :: _) w') _ => hK _ _ ?_)))
 refine (nextW_none (H.pull 1 rfl) h0).mono ?_; rintro e w' ⟨rfl, rfl⟩
 go_wp2_with ((with_reducible refine wpList_op rfl ?_); intro _ hK; first
  | (refine dst_is 20 rfl ?_; refine wp_mid 91 _ rfl rfl (default : WtO).1.cells (by kernel_rfl) (by rw [hz.out]; exact size_wt) (at_blk H 0 rfl) (hK _ _ ?_))
  | (refine sto_is 4 rfl ?_; refine wp_store_row_sl 91 _ _ rfl (cells := (default : WtO).1.cells.toArray) rfl rfl (by rw [List.size_toArray, hz.out]; exact size_wt) (by simpa using one_wt default) 0 H rfl rfl (fun w' (H : At w0 (raw X (default : WtO).1.cells.toArray 91 :: _) w') => hK _ _ ?_)))
 exact bodyPost_ret (v := .tuple #[.agg (default : WtO).1.cells.toArray, .int .u64 0, .bool false]) (results_row_tmp2 rfl _ rfl (at_blk H 0 rfl) (by kernel_rfl) (by rw [hz.out]; exact size_wt) rfl rfl) rfl ⟨rfl, H.tail⟩
set_option maxRecDepth 10000 in
set_option maxHeartbeats 400000 in
theorem popW_early {w0 w : World} {F : List SP} {p : Nat} {most nx : Int} {a : Option Addr} {cap : Nat} {l : List Thing} (H : At w0 (hdW p most nx a l.length cap :: lrow 167 652 thW (.slice a l.length cap) l :: F) w) (now : Int) (hl : 0 < l.length) (hn : now < (g l 0).1) :
    Calls Tryz.prog 41 #[.pointer (some ⟨p, 0, none⟩), .int .u64 now] w fun e w' => e = .returned (.tuple #[.agg (default : WtO).1.cells.toArray, .int .u64 0, .bool false]) ∧ At w0 (hdW p most nx a l.length cap :: lrow 167 652 thW (.slice a l.length cap) l :: F) w' := by
 have hz := Lib.hid (Wt.cells_length (default : WtO).2)
 go_enter Tryz.func41, Tryz.ntmps41
 go_wp2_with ((with_reducible refine wpList_op rfl ?_); intro _ hK; (refine dst_is 4 rfl ?_; refine wp_alloc_sl 91 rfl info_wt H (fun X w' (H : At w0 (raw X (default : WtO).1.cells.toArray 91 :: _) w') _ => hK _ _ ?_)))
 refine (nextW_open (((H.pull 2 rfl).pull 2 rfl)) hl).mono ?_; rintro e w' ⟨rfl, rfl⟩
 go_wp2_with ((with_reducible refine wpList_op rfl ?_); intro _ hK; first
  | (refine dst_is 20 rfl ?_; refine wp_mid 91 _ rfl rfl (default : WtO).1.cells (by kernel_rfl) (by rw [hz.out]; exact size_wt) (at_blk H 0 rfl) (hK _ _ ?_))
  | (refine sto_is 4 rfl ?_; refine wp_store_row_sl 91 _ _ rfl (cells := (default : WtO).1.cells.toArray) rfl rfl (by rw [List.size_toArray, hz.out]; exact size_wt) (by simpa using one_wt default) 0 H rfl rfl (fun w' (H : At w0 (raw X (default : WtO).1.cells.toArray 91 :: _) w') => hK _ _ ?_)))
 exact bodyPost_ret (v := .tuple #[.agg (default : WtO).1.cells.toArray, .int .u64 0, .bool false]) (results_row_tmp2 rfl _ rfl (at_blk H 0 rfl) (by kernel_rfl) (by rw [hz.out]; exact size_wt) rfl rfl) rfl ⟨rfl, H.tail⟩
set_option maxRecDepth 10000 in
set_option maxHeartbeats 4000000 in
theorem popW_some {w0 w : World} {F : List SP} {p : Nat} {most nx : Int} {a : Option Addr} {cap : Nat} {l : List Thing} (H : At w0 (hdW p most nx a l.length cap :: lrow 167 652 thW (.slice a l.length cap) l :: F) w) (now : Int) (hl : 0 < l.length) (hn : ¬ now < (g l 0).1) (ho : HeapOK l) (h6 : l.length ≤ 1000000) :
    Calls Tryz.prog 41 #[.pointer (some ⟨p, 0, none⟩), .int .u64 now] w fun e w' => ∃ l', e = .returned (.tuple #[.agg (g l 0).2.2.1.cells.toArray, .int .u64 (g l 0).1, .bool true]) ∧ (HeapOK l' ∧ (g l 0 :: l').Perm l) ∧ At w0 (hdW p most nx a l'.length cap :: lrow 167 652 thW (.slice a l'.length cap) l' :: F) w' := by
 obtain ⟨gb, ob, rfl⟩ := lrow_place H 1 rfl hl
 obtain ⟨n, hln⟩ : ∃ n, l.length = n + 1 := ⟨l.length - 1, by omega⟩
 have hcap : n + 1 ≤ cap := by
  have h := H.pull 1 rfl
  unfold lrow at h
  obtain ⟨_, _, h, _⟩ := At.rows_blk h
  omega
 have hP := Lib.hid (ho.pop hln)
 have HG := Lib.hid (g_get hl)
 obtain ⟨x0, hx0⟩ : ∃ x0, x0 = (g l 0).2.2 := ⟨_, rfl⟩
 obtain ⟨t0, ht0⟩ : ∃ t0, t0 = (g l 0).1 := ⟨_, rfl⟩
 have hz := Lib.hid (Wt.cells_length (default : WtO).2)
 have hx := Lib.hid (Wt.cells_length x0.2)
 have HX := Lib.hid (show ((thW (g l 0)).drop 2).take 650 = x0.1.cells by rw [thW_x, hx0])
 have HLN := Lib.hid hln
 have h6n : (n : Int) ≤ 1000000 := by omega
 rw [← hx0, ← ht0]
 rw [← ht0] at hn
 clear ho h6 hx0
 have HT0 := Lib.hid ht0
 clear ht0
 go_enter Tryz.func41, Tryz.ntmps41
 go_wp2_with ((with_reducible refine wpList_op rfl ?_); intro _ hK; (refine dst_is 4 rfl ?_; refine wp_alloc_sl 91 rfl info_wt H (fun X w' (H : At w0 (raw X (default : WtO).1.cells.toArray 91 :: _) w') _ => hK _ _ ?_)))
 replace H := (H.pull 2 rfl).pull 2 rfl
 refine (nextW_open H hl).mono ?_; rintro e w' ⟨rfl, rfl⟩
 rw [← HT0.out]
 have H1 : At w0 (raw p #[.int .i64 most, .slice (some ⟨gb, ob, none⟩) (n + 1) cap, .int .u64 nx] 128 :: lrow 167 652 thW (.slice (some ⟨gb, ob, none⟩) l.length cap) l :: raw X (default : WtO).1.cells.toArray 91 :: F) w' := by
  have h2 := H
  unfold hdW at h2
  rw [HLN.out] at h2 ⊢
  exact h2
 clear H hln hl
 replace H := H1
 clear H1
 go_wp2_with ((with_reducible refine wpList_op rfl ?_); intro _ hK; first
  | (refine dst_is 24 rfl ?_; refine wp_get 126 _ rfl rfl (by kernel_rfl) (raw_at (H.heap 0 rfl) rfl) (hK _ _ ?_))
  | (refine dst_is 27 rfl ?_; refine wp_mid 91 _ rfl (b := gb) (off := ob + 2) rfl x0.1.cells (by kernel_rfl) (by rw [hx.out]; exact size_wt) (range_sub (by simpa using lrow_at el_thW H 1 rfl HG.out) HX.out) (hK _ _ ?_))
  | (refine sto_is 4 rfl ?_; refine wp_store_row_sl 91 _ _ rfl (cells := x0.1.cells.toArray) rfl rfl (by rw [List.size_toArray, hx.out]; exact size_wt) (by simpa using one_wt x0) 2 H rfl (by rw [List.size_toArray, List.size_toArray, hz.out, hx.out]) (fun w' (H : At w0 (raw p #[.int .i64 most, .slice (some ⟨gb, ob, none⟩) (n + 1) cap, .int .u64 nx] 128 :: lrow 167 652 thW (.slice (some ⟨gb, ob, none⟩) l.length cap) l :: raw X x0.1.cells.toArray 91 :: F) w') => hK _ _ (Stop.go ?_))))
 refine Stop.un ?_
 go_wp2_with ((with_reducible refine wpList_op rfl ?_); intro _ hK; first
  | (refine dst_is 31 rfl ?_; refine wp_get 126 _ rfl rfl (by kernel_rfl) (raw_at (H.heap 0 rfl) rfl) (hK _ _ ?_)))
 have H2 : At w0 (hdW p most nx (some ⟨gb, ob, none⟩) l.length cap :: lrow 167 652 thW (.slice (some ⟨gb, ob, none⟩) l.length cap) l :: raw X x0.1.cells.toArray 91 :: F) w' := by
  unfold hdW
  rw [HLN.out] at H ⊢
  exact H
 refine (swapW_c H2 0 n (by have := HLN.out; omega) (by have := HLN.out; omega)).mono ?_; rintro e w' ⟨v, rfl, H⟩
 clear H2
 have HS := Lib.hid (sw_length l 0 n)
 obtain ⟨l2, hl2⟩ : ∃ l2, l2 = sw l 0 n := ⟨_, rfl⟩
 rw [← hl2] at H
 have HL2 := Lib.hid hl2
 have hn2 : l2.length = n + 1 := by rw [hl2, HS.out, HLN.out]
 have HN2 := Lib.hid hn2
 clear hl2
 replace H : At w0 (raw p #[.int .i64 most, .slice (some ⟨gb, ob, none⟩) (n + 1) cap, .int .u64 nx] 128 :: lrow 167 652 thW (.slice (some ⟨gb, ob, none⟩) l2.length cap) l2 :: raw X x0.1.cells.toArray 91 :: F) w' := by
  unfold hdW at H
  rw [← hn2]; exact H
 clear hn2
 go_wp2_with ((with_reducible refine wpList_op rfl ?_); intro _ hK; first
  | (refine dst_is 40 rfl ?_; refine wp_get _ _ rfl rfl (by kernel_rfl) (raw_at (H.heap 0 rfl) rfl) (hK _ _ ?_))
  | (refine dst_is 47 rfl ?_; refine wp_get _ _ rfl rfl (by kernel_rfl) (raw_at (H.heap 1 rfl) rfl) (hK _ _ ?_))
  | (refine wp_lclear_one el_thW (z := (0, 0, default)) (i := n) _ under_thingsW _ rfl rfl zero_thW zcells_thW (H.pull 1 rfl) (by have := HN2.out; omega) (fun w' H => hK _ _ ?_))
  | (refine wp_store_sl _ _ _ rfl rfl rfl (by kernel_rfl) rfl 1 H rfl (by simp) fun w' H => hK _ _ (Stop.go ?_)))
 refine Stop.un ?_
 have e1 : (l2.set n (0, 0, default)).take n = l2.take n := List.take_set_of_le (Nat.le_refl _)
 have e2 : (l2.take n).length = n := by have := HN2.out; rw [List.length_take]; omega
 have H2 := At.lrow_take el_thW (ys := l2.set n (0, 0, default)) H (q := n) (by have := HN2.out; rw [List.length_set]; omega)
 rw [e1] at H2
 have H3 : At w0 (hdW p most nx (some ⟨gb, ob, none⟩) (l2.take n).length cap :: lrow 167 652 thW (.slice (some ⟨gb, ob, none⟩) (l2.take n).length cap) (l2.take n) :: raw X x0.1.cells.toArray 91 :: F) w' := by
  unfold hdW
  rw [e2] at H2 ⊢
  exact H2.pull 1 rfl
 have hd := hP.out.1
 rw [← HL2.out] at hd
 go_wp2_with fail
 refine (downW_c H3 (by omega) hd).mono ?_; rintro e w' ⟨v2, l3, rfl, hp3, ho3, H⟩
 have HO3 := Lib.hid ho3
 have HP3 := Lib.hid hp3
 clear ho3 hp3 hd e1 e2 H2 H3
 replace H := (H.pull 2 rfl)
 go_wp2_with ((with_reducible refine wpList_op rfl ?_); intro _ hK; first
  | (refine dst_is 54 rfl ?_; refine wp_mid 91 _ rfl rfl x0.1.cells (by kernel_rfl) (by rw [hx.out]; exact size_wt) (at_blk H 0 rfl) (hK _ _ ?_))
  | (refine sto_is 4 rfl ?_; refine wp_store_row_sl 91 _ _ rfl (cells := x0.1.cells.toArray) rfl rfl (by rw [List.size_toArray, hx.out]; exact size_wt) (by simpa using one_wt x0) 0 H rfl rfl (fun w' (H : At w0 (raw X x0.1.cells.toArray 91 :: _) w') => hK _ _ ?_)))
 have hq := hP.out.2
 rw [← HL2.out] at hq
 exact bodyPost_ret (v := .tuple #[.agg x0.1.cells.toArray, .int .u64 t0, .bool true]) (results_row_tmp2 rfl _ rfl (at_blk H 0 rfl) (by kernel_rfl) (by rw [hx.out]; exact size_wt) rfl rfl) rfl ⟨l3, rfl, ⟨HO3.out, (HP3.out.cons _).trans hq⟩, H.tail⟩
theorem popW_c {w0 w : World} {F : List SP} {p : Nat} {most nx : Int} {L : List Thing} (H : At w0 (heapW p most nx L :: F) w) (hR : RowOK L nx) (h6 : L.length ≤ 1000000) (now : Int) :
    Calls Tryz.prog 41 #[.pointer (some ⟨p, 0, none⟩), .int .u64 now] w fun e w' => e = .returned (.tuple #[.agg (popX L now).1.cells.toArray, .int .u64 (popT L now), .bool (popB L now)]) ∧ At w0 (heapW p most nx (popR L now) :: F) w' := by
 by_cases h0 : L.length = 0
 · have hb : popB L now = false := decide_eq_false (by omega)
   refine (popW_none H now h0).mono fun e w' h => ?_
   unfold popX popT popR
   rw [hb]
   exact h
 · obtain ⟨a, cap, l, ho, hp, H2⟩ := heapW_open H
   have hl : 0 < l.length := by have := hp.length_eq; omega
   have hm : g l 0 = g L (fk L) := hR.first (hp.mem_iff.1 (List.mem_of_getElem? (g_get hl))) fun u hu => by
    obtain ⟨k, hk⟩ := List.getElem?_of_mem (hp.mem_iff.2 hu)
    rw [← g_of hk]
    exact ho.least k (List.getElem?_eq_some_iff.1 hk).1
   by_cases hn : now < (g l 0).1
   · have hb : popB L now = false := decide_eq_false (by rw [← hm]; omega)
     refine (popW_early H2 now hl hn).mono fun e w' h => ?_
     unfold popX popT popR
     rw [hb]
     exact ⟨h.1, heapW_shut ho hp h.2⟩
   · have hb : popB L now = true := decide_eq_true (by rw [← hm]; omega)
     refine (popW_some H2 now hl hn ho (by have := hp.length_eq; omega)).mono fun e w' h => ?_
     obtain ⟨l', h1, ⟨h2, h3⟩, h4⟩ := h
     unfold popX popT popR
     rw [hb, ← hm]
     exact ⟨h1, heapW_shut h2 (erase_perm (fk_lt (by omega)) (hm ▸ h3.trans hp)) h4⟩
end Go.Proofs.YtmflbekabkainaaGreatDoor
