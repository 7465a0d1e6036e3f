import Derived.Test.YtmflbekabkainaaGreatDoorQNPk
import Derived.Test.YtmflbekabkainaaGreatDoorQMapR
import Derived.DeepKeys4
set_option linter.unusedVariables false
set_option linter.unusedSimpArgs false
namespace Go.Proofs.YtmflbekabkainaaGreatDoor
open Go.RowKit Go.Hg
open Go.Maps (Keyed)
def ekT (t : Tg) : Value := .agg ([Value.int .u32 (t.1 : Int)] ++ v8 t.2).toArray
def okT (t : Tg) : Prop := t.1 < 4294967296 ∧ t.2.length = 16
def ek32 (n : Nat) : Value := .int .u32 (n : Int)
def ok32 (n : Nat) : Prop := n < 4294967296
def evN (n : Nat) : Value := .int .i64 (n : Int)
def tkinds : List LK := [.i .u32] ++ List.replicate 16 (.i .u8)
theorem under_has : Tryz.prog.underlying 129 = some (.map 161 4) := by kernel_rfl
theorem under_many : Tryz.prog.underlying 130 = some (.map 36 3) := by kernel_rfl
theorem under_u32k : Tryz.prog.underlying 36 = some (.int .u32) := by kernel_rfl
theorem zero_bool (w : World) : (zeroValue 4).run Tryz.prog w = .ok (.bool false) w := by kernel_rfl
theorem zero_int (w : World) : (zeroValue 3).run Tryz.prog w = .ok (evN 0) w := by kernel_rfl
set_option maxRecDepth 100000 in
theorem tk_laid : laidOutB Tryz.prog = true := by kernel_rfl
theorem tk_row : (161 : TypeId) < Tryz.prog.types.size := of_decide_eq_true (by kernel_rfl)
theorem tk_at : Tryz.prog.keyTypeAt 3 161 = true := by kernel_rfl
theorem tk_type : Tryz.prog.keyType 161 = true := by kernel_rfl
theorem tk_wide : (match Tryz.prog.underlying 161 with | some (.array _ _) | some (.struct _) => true | _ => false) = true := by kernel_rfl
theorem tk_flat : flatK Tryz.prog (Tryz.prog.types.size + 1) 161 = some tkinds := by kernel_rfl
theorem tk_cells : Tryz.prog.cellsOf 161 = 17 := by kernel_rfl
theorem tk_cases : (∃ n e, Tryz.prog.underlying 161 = some (.array n e)) ∨ ∃ fs, Tryz.prog.underlying 161 = some (.struct fs) := by
 have h := tk_wide
 revert h
 generalize Tryz.prog.underlying 161 = u
 intro h
 cases u with
 | none => cases h
 | some d => cases d <;> first | exact .inl ⟨_, _, rfl⟩ | exact .inr ⟨_, rfl⟩ | cases h
theorem ekT_len {t : Tg} (h : okT t) : ([Value.int .u32 (t.1 : Int)] ++ v8 t.2).length = 17 := by simp [v8_length, h.2]
theorem mkT : MK Tryz.prog 161 ekT okT where
 law := Keyed.of_law (deep_law_laid tk_laid (m := 3) (by omega) tk_row tk_at (by
  have h := tk_wide
  revert h
  generalize Tryz.prog.underlying 161 = u
  intro h
  cases u with
  | none => cases h
  | some d => cases d <;> first | rfl | cases h))
 key x hx := by
  have hf : (ekT x).formed Tryz.prog 161 = true := by
   have h1 := tk_wide
   have h2 := tk_cells
   have h3 := ekT_len hx
   unfold ekT Value.formed
   split at h1 <;> simp_all
  have hk := keyLits_flat (P := Tryz.prog) (Tryz.prog.types.size + 1) 161 tkinds ([Value.int .u32 (x.1 : Int)] ++ v8 x.2) tk_flat (fits_append ⟨⟨rfl, wf_u32 hx.1⟩, trivial⟩ (fits_v8n hx.2))
  unfold Go.keyOf
  rcases tk_cases with ⟨n, e, hu⟩ | ⟨fs, hu⟩
  all_goals
   rw [hu]
   simp only [tk_type, hf, Bool.and_self, if_true]
   rw [show (ekT x).cells.toList = [Value.int .u32 (x.1 : Int)] ++ v8 x.2 from rfl, hk]
   exact ⟨_, rfl⟩
 inj x y hx hy h := by
  unfold ekT at h
  simp only [Value.agg.injEq] at h
  have h2 : ([Value.int .u32 (x.1 : Int)] ++ v8 x.2) = ([.int .u32 (y.1 : Int)] ++ v8 y.2) := by simpa using congrArg Array.toList h
  simp at h2
  exact Prod.ext (by exact_mod_cast h2.1) (SlotD.v8_inj h2.2)
theorem mk32 : MK Tryz.prog 36 ek32 ok32 where
 law := Go.Maps.int_keyed under_u32k
 key x hx := ⟨_, Go.Maps.keyOf_int_mk under_u32k (wf_u32 hx)⟩
 inj x y _ _ h := by
  simp [ek32] at h
  exact_mod_cast h
theorem places_tk : placesOf Tryz.prog 161 = some ([Value.int .u32 0] ++ v8 (zs 16), [(0, 1), (1, 16)]) := by kernel_rfl
theorem built_tk {e : Nat} {tag : List (BitVec 8)} (ht : tag.length = 16) (w : World) : (Instr.build 161 [(0, Value.int .u32 (e : Int)), (1, .agg (v8 tag).toArray)].toArray).run Tryz.prog w = .ok (.agg ([Value.int .u32 (e : Int)] ++ v8 tag).toArray) w := by
 refine run_buildL places_tk [(0, Value.int .u32 (e : Int)), (1, .agg (v8 tag).toArray)] ?_ w
 have h1 : (v8 tag).length = 16 := by rw [v8_length, ht]
 have h2 : (v8 (zs 16)).length = 16 := by rw [v8_length, zs_length]
 show buildL _ _ [(0, [Value.int .u32 (e : Int)]), (1, v8 tag)] = _
 simp only [buildL, List.getElem?_cons_zero, List.getElem?_cons_succ]
 rw [if_pos ⟨rfl, by simp [h2]⟩]
 simp only [List.take_zero, List.nil_append, List.length_singleton, Nat.zero_add]
 rw [if_pos ⟨h1, by simp [h1, h2]⟩, h1]
 simp [h2]
theorem exec_look_of {P : Program} {o : Oper} {ρ : Operand → Value} {w : World} {t : TypeId} {x k : Operand} {c : Bool} {m kv v : Value} (ho : o.op = .lookup t x k c) (hx : ρ x = m) (hk : ρ k = kv) (h : (Instr.lookup t m kv c).run P w = .ok v w) : (execOp ρ o).run P w = .ok (.value v) w := by
 unfold execOp
 simp only [ho, hx, hk, Sem.run_bind, h, Result.andThen_ok, Sem.run_pure]
def tago (t most : Nat) (seen : List (Tg × Bool)) (many : List (Nat × Nat)) (floor : Nat) : SP := fun h => ∃ hb mb : Nat, seps [raw t #[.int .i64 (most : Int), .map (some hb), .map (some mb), .int .u32 (floor : Int)] 132, mapo ekT (fun b => .bool b) okT hb seen, mapo ek32 evN ok32 mb many] h
theorem tag_open {w0 w : World} {F : List SP} {t most floor : Nat} {seen : List (Tg × Bool)} {many : List (Nat × Nat)} (H : At w0 (tago t most seen many floor :: F) w) : ∃ hb mb : Nat, At w0 (raw t #[.int .i64 (most : Int), .map (some hb), .map (some mb), .int .u32 (floor : Int)] 132 :: mapo ekT (fun b => .bool b) okT hb seen :: mapo ek32 evN ok32 mb many :: F) w := by
 obtain ⟨b, h, ⟨h1, h2, ⟨hb, mb, s⟩, q', r⟩, t, u⟩ := H
 exact ⟨hb, mb, b, h, seps_join [_, _, _] h ⟨h1, h2, s, q', r⟩, t, u⟩
theorem tag_shut {w0 w : World} {F : List SP} {t most floor hb mb : Nat} {seen : List (Tg × Bool)} {many : List (Nat × Nat)} (H : At w0 (raw t #[.int .i64 (most : Int), .map (some hb), .map (some mb), .int .u32 (floor : Int)] 132 :: mapo ekT (fun b => .bool b) okT hb seen :: mapo ek32 evN ok32 mb many :: F) w) : At w0 (tago t most seen many floor :: F) w :=
 H.imp fun h s => sep_mono (seps_split [_, _, _] h s) (fun _ s => ⟨hb, mb, s⟩) (fun _ s => s)
attribute [irreducible] tago
section
variable {w0 w : World} {F : List SP} {t most floor hb mb : Nat} {seen : List (Tg × Bool)} {many : List (Nat × Nat)}
set_option maxRecDepth 10000 in
set_option maxHeartbeats 400000 in
theorem tfloor_c (H : At w0 (tago t most seen many floor :: F) w) : Calls Tryz.prog 96 #[.pointer (some ⟨t, 0, none⟩)] w fun e w' => e = .returned (.int .u32 (floor : Int)) ∧ w = w' := by
 obtain ⟨hb, mb, H⟩ := tag_open H
 have hc : w.cell? ⟨t, 3, none⟩ = some (.int .u32 (floor : Int)) := raw_at (H.heap 0 rfl) rfl
 go_enter Tryz.func96, Tryz.ntmps96
 go_wp2
 go_ret
 exact ⟨rfl, rfl⟩
set_option maxRecDepth 10000 in
set_option maxHeartbeats 400000 in
theorem tlen_c (H : At w0 (tago t most seen many floor :: F) w) {e : Nat} (he : e < 4294967296) : Calls Tryz.prog 98 #[.pointer (some ⟨t, 0, none⟩), .int .u32 (e : Int)] w fun r w' => r = .returned (.int .i64 (((mlook many e).getD 0 : Nat) : Int)) ∧ w = w' := by
 obtain ⟨hb, mb, H⟩ := tag_open H
 have hc : w.cell? ⟨t, 2, none⟩ = some (.map (some mb)) := raw_at (H.heap 0 rfl) rfl
 have hl := run_look mk32 under_many zero_int (H.pull 2 rfl) (x := e) he false
 obtain ⟨r, hr⟩ : ∃ r : Nat, r = (mlook many e).getD 0 := ⟨_, rfl⟩
 rw [← hr] at hl ⊢
 have hl2 : (Instr.lookup 130 (.map (some mb)) (.int .u32 (e : Int)) false).run Tryz.prog w = .ok (.int .i64 (r : Int)) w := hl
 clear hl hr
 go_enter Tryz.func98, Tryz.ntmps98
 go_wp2
 go_ret
 exact ⟨rfl, rfl⟩
theorem lookT {w0 w : World} {F : List SP} {hb : Nat} {seen : List (Tg × Bool)} {e : Nat} {tag : List (BitVec 8)} (H : At w0 (mapo ekT (fun b => .bool b) okT hb seen :: F) w) (he : e < 4294967296) (ht : tag.length = 16) :
    (Instr.lookup 129 (.map (some hb)) (.agg ([Value.int .u32 (e : Int)] ++ v8 tag).toArray) false).run Tryz.prog w = .ok (.bool ((mlook seen (e, tag)).getD false)) w :=
 run_look mkT under_has zero_bool H (x := (e, tag)) ⟨he, ht⟩ false
set_option maxRecDepth 10000 in
set_option maxHeartbeats 1000000 in
theorem thas_c (H : At w0 (tago t most seen many floor :: F) w) {e : Nat} {tag : List (BitVec 8)} (he : e < 4294967296) (ht : tag.length = 16) :
    Calls Tryz.prog 97 #[.pointer (some ⟨t, 0, none⟩), .int .u32 (e : Int), .agg (v8 tag).toArray] w fun r w' => r = .returned (.bool ((mlook seen (e, tag)).getD false)) ∧ At w0 (tago t most seen many floor :: F) w' := by
 obtain ⟨hb, mb, H⟩ := tag_open H
 have HE := Lib.hid he
 have HT := Lib.hid ht
 obtain ⟨r, hr⟩ : ∃ r : Bool, r = (mlook seen (e, tag)).getD false := ⟨_, rfl⟩
 have HR := Lib.hid hr
 rw [← hr]
 clear he ht hr
 go_enter Tryz.func97, Tryz.ntmps97
 go_wp2_with ((with_reducible refine wpList_op rfl ?_); intro _ hK; (refine dst_is 5 rfl ?_; refine wp_box_sl (v := .agg (v8 tag).toArray) 104 _ rfl rfl H (fun A w' (H : At w0 (raw A (v8 tag).toArray 104 :: _) w') _ => hK _ _ ?_)))
 refine wpM_begin [] ((At w0 (raw A (v8 tag).toArray 104 :: raw t #[.int .i64 (most : Int), .map (some hb), .map (some mb), .int .u32 (floor : Int)] 132 :: mapo ekT (fun b => .bool b) okT hb seen :: mapo ek32 evN ok32 mb many :: F))) [(0, 2), (1, 2), (2, 2), (3, 1), (4, 2), (5, 1), (6, 2), (7, 1), (8, 0)] rfl (by kernel_rfl) (by kernel_rfl) ((H.drew)) ?_
 intro ops hOps hS
 replace H := H.drew
 iterate 3 refine fm hOps ?_
 refine tm hOps hS (fun w hw => raw_at (hw.heap 1 rfl) rfl) ?_
 refine fm hOps ?_
 refine wpM_take hOps hS rfl (fun _ _ _ h => h) (yl_lda rfl 104 _ rfl rfl (by kernel_rfl) (by rw [HT.out]; exact size_tagt) (fun w hw => at_blk hw 0 rfl)) ?_
 simp only [nrm]
 refine wpM_free hOps rfl (fun _ _ _ h => h) (yl_build rfl 161 _ rfl (by rw [Array.toList_map]; rfl) (built_tk HT.out)) ?_
 simp only [nrm]
 refine wpM_take hOps hS rfl (fun _ _ _ h => h) (yl (v := .bool r) rfl (fun w hw => exec_look_of rfl rfl rfl (by rw [HR.out]; exact lookT (hw.pull 2 rfl) HE.out HT.out))) ?_
 simp only [nrm]
 refine wpM_next hOps rfl rfl ?_
 intro K hK
 refine wp_run rfl ?_
 have hS := (hS)
 refine hK _ _ (.inr hS) ?_
 clear hK K
 simp only [nrm]
 refine wpM_end ?_
 clear hOps hS ops
 go_wp2
 go_ret
 exact ⟨rfl, tag_shut H.tail⟩
set_option maxRecDepth 10000 in
set_option maxHeartbeats 1000000 in
theorem over1_c {P i j : Nat} (H : At w0 F w) (hi : F[i]? = some (raw P #[.pointer (some ⟨t, 0, none⟩)] 92)) (hj : F[j]? = some (raw t #[.int .i64 (most : Int), .map (some hb), .map (some mb), .int .u32 (floor : Int)] 132)) (x : Tg) (b : Bool) :
    Calls Tryz.prog 66 #[ekT x, .bool b, .pointer (some ⟨P, 0, none⟩)] w fun r w' => r = .returned (.bool (decide (x.1 < floor))) ∧ At w0 F w' := by
 have hd := Lib.hid (show decide ((x.1 : Int) < (floor : Int)) = decide (x.1 < floor) by apply decide_eq_decide.2; omega)
 have HI := Lib.hid hi
 have HJ := Lib.hid hj
 clear hi hj
 unfold ekT
 go_enter Tryz.func66, Tryz.ntmps66
 go_wp2_with ((with_reducible refine wpList_op rfl ?_); intro _ hK; (refine dst_is 3 rfl ?_; refine wp_box_sl (v := .agg ([Value.int .u32 (x.1 : Int)] ++ v8 x.2).toArray) 161 _ rfl rfl H (fun A w' (H : At w0 (raw A ([Value.int .u32 (x.1 : Int)] ++ v8 x.2).toArray 161 :: _) w') _ => hK _ _ ?_)))
 refine wpM_begin [] ((At w0 (raw A ([Value.int .u32 (x.1 : Int)] ++ v8 x.2).toArray 161 :: F))) [(0, 2), (1, 1), (2, 1), (3, 2), (4, 2), (5, 1), (6, 2), (7, 0)] rfl (by kernel_rfl) (by kernel_rfl) ((H.drew)) ?_
 intro ops hOps hS
 replace H := H.drew
 refine fm hOps ?_
 refine tm hOps hS (fun w hw => at_raw hw 0 rfl (j := 0) rfl) ?_
 refine tm hOps hS (fun w hw => raw_at (hw.heap (i + 1) HI.out) rfl) ?_
 iterate 2 refine fm hOps ?_
 refine tm hOps hS (fun w hw => raw_at (hw.heap (j + 1) HJ.out) rfl) ?_
 refine fm hOps ?_
 refine wpM_next hOps rfl rfl ?_
 intro K hK
 refine wp_run rfl ?_
 have hS := (hS)
 refine hK _ _ (.inr hS) ?_
 clear hK K
 simp only [nrm]
 refine wpM_end ?_
 clear hOps hS ops
 go_wp2
 go_ret
 exact ⟨rfl, H.tail⟩
set_option maxRecDepth 10000 in
set_option maxHeartbeats 1000000 in
theorem over2_c {P i j : Nat} (H : At w0 F w) (hi : F[i]? = some (raw P #[.pointer (some ⟨t, 0, none⟩)] 92)) (hj : F[j]? = some (raw t #[.int .i64 (most : Int), .map (some hb), .map (some mb), .int .u32 (floor : Int)] 132)) (x : Nat) (b : Nat) :
    Calls Tryz.prog 68 #[ek32 x, evN b, .pointer (some ⟨P, 0, none⟩)] w fun r w' => r = .returned (.bool (decide (x < floor))) ∧ At w0 F w' := by
 have hd := Lib.hid (show decide ((x : Int) < (floor : Int)) = decide (x < floor) by apply decide_eq_decide.2; omega)
 have c1 : w.cell? ⟨P, 0, none⟩ = some (.pointer (some ⟨t, 0, none⟩)) := raw_at (H.heap i hi) rfl
 have c2 : w.cell? ⟨t, 3, none⟩ = some (.int .u32 (floor : Int)) := raw_at (H.heap j hj) rfl
 unfold ek32 evN
 go_enter Tryz.func68, Tryz.ntmps68
 go_wp2_with fail
 go_wp2
 go_ret
 exact ⟨rfl, H⟩
set_option maxRecDepth 10000 in
set_option maxHeartbeats 2000000 in
theorem delE_c {P : Nat} (H : At w0 (mapo ek32 evN ok32 mb many :: raw P #[.pointer (some ⟨t, 0, none⟩)] 92 :: raw t #[.int .i64 (most : Int), .map (some hb), .map (some mb), .int .u32 (floor : Int)] 132 :: F) w) :
    Calls Tryz.prog 67 #[.map (some mb), .func (.func 68) #[] #[.pointer (some ⟨P, 0, none⟩)]] w fun r w' => (∃ v, r = .returned v) ∧ At w0 (mapo ek32 evN ok32 mb (many.filter fun p => decide (floor ≤ p.1)) :: raw P #[.pointer (some ⟨t, 0, none⟩)] 92 :: raw t #[.int .i64 (most : Int), .map (some hb), .map (some mb), .int .u32 (floor : Int)] 132 :: F) w' := by
 go_enter Tryz.func67, Tryz.ntmps67
 go_wp2_with ((with_reducible refine wpList_op rfl ?_); intro _ hK; (refine dst_is 7 rfl ?_; refine wp_mrange rfl under_many H rfl (fun r arr clock w' m H => hK _ _ (Stop.go ?_))))
 refine Stop.un ?_
 go_wp2_with fail
 go_loopw [4, 5] (fun k v wr => ∃ arr seen l, RngOK ek32 evN ok32 (fun x => decide (floor ≤ x)) many arr clock seen l ∧ At w0 (one mb (.map arr clock) :: one r (.mapIter (some mb) clock seen clock) :: raw P #[.pointer (some ⟨t, 0, none⟩)] 92 :: raw t #[.int .i64 (most : Int), .map (some hb), .map (some mb), .int .u32 (floor : Int)] 132 :: F) wr) (fun _ _ wr => leftW wr r)
 case atStart => exact ⟨arr, #[], many, RngOK.start m, H⟩
 case round =>
  clear H m
  obtain ⟨arr, seen, l, R, H⟩ := hrel
  have HR := Lib.hid R
  have HW := Lib.hid (leftW_at H)
  go_wp2_with ((with_reducible refine wpList_op rfl ?_); intro _ hK; (refine dst_is 8 rfl ?_; refine wp_mnext rfl R H rfl (fun hl => hK _ _ (Stop.go ?_)) (fun j e p w' ha hp hk hv hlt H => hK _ _ (Stop.go ?_))))
  · refine Stop.un ?_
    have HL := Lib.hid hl
    clear hl R
    go_wp2_with fail
    go_end0
    exact ⟨⟨_, rfl⟩, by rw [← HL.out]; exact (H.map_close HR.out.map).maskR [true, false]⟩
  · refine Stop.un ?_
    clear R
    have HA := Lib.hid ha
    have HP := Lib.hid hp
    have HKV := Lib.hid (And.intro hk hv)
    have HLT := Lib.hid hlt
    clear ha hp hk hv hlt
    go_wp2_with ((with_reducible refine wpList_op rfl ?_); intro _ hK; (refine dst_is 10 rfl ?_; refine wp_run (exec_mentry rfl HR.out.map H rfl HA.out HKV.out.1 HKV.out.2) (hK _ _ ?_)))
    refine (over2_c H (i := 2) (j := 3) rfl rfl p.1 p.2).mono ?_; rintro e' w'' ⟨rfl, H⟩
    by_cases hlt : p.1 < floor
    · rw [decide_eq_true hlt]
      have HG := Lib.hid (HR.out.gone HA.out HP.out (decide_eq_false (by omega)))
      go_wp2_with ((with_reducible refine wpList_op rfl ?_); intro _ hK; (refine wp_mdel rfl mk32 under_many HR.out.map H HP.out rfl rfl rfl (fun w3 H => hK _ _ (Stop.go ?_))))
      refine Stop.un ?_
      go_wp2_with fail
      go_roundw
      case rel => exact ⟨_, _, _, HG.out, H⟩
      case measure => rw [leftW_at H, HW.out]; exact Nat.lt_of_le_of_lt (left_erase _) HLT.out
    · rw [decide_eq_false hlt]
      have HG := Lib.hid (HR.out.stay HA.out HP.out (decide_eq_true (by omega)))
      go_wp2_with fail
      go_roundw
      case rel => exact ⟨_, _, _, HG.out, H⟩
      case measure => rw [leftW_at H, HW.out]; exact HLT.out
theorem info_tk : (Tryz.prog.info? 161).map (fun i => (i.zero, i.size, i.bytes)) = some (some (.agg ([Value.int .u32 0] ++ v8 (zs 16)).toArray), 17, 20) := by kernel_rfl
theorem size_tk : (Tryz.prog.info? 161).map (·.size) = some 17 := by kernel_rfl
theorem one_tk (x : Tg) : ∀ u ∈ [Value.int .u32 (x.1 : Int)] ++ v8 x.2, u.oneCell' = true := fun u hu => by
 rcases List.mem_append.1 hu with h | h
 · simp at h; subst h; rfl
 · exact v8_one _ u h
set_option maxRecDepth 10000 in
set_option maxHeartbeats 2000000 in
theorem delK_c {P : Nat} {seen0 : List (Tg × Bool)} (H : At w0 (mapo ekT (fun b => .bool b) okT hb seen0 :: raw P #[.pointer (some ⟨t, 0, none⟩)] 92 :: raw t #[.int .i64 (most : Int), .map (some hb), .map (some mb), .int .u32 (floor : Int)] 132 :: F) w) :
    Calls Tryz.prog 65 #[.map (some hb), .func (.func 66) #[] #[.pointer (some ⟨P, 0, none⟩)]] w fun r w' => (∃ v, r = .returned v) ∧ At w0 (mapo ekT (fun b => .bool b) okT hb (seen0.filter fun p => decide (floor ≤ p.1.1)) :: raw P #[.pointer (some ⟨t, 0, none⟩)] 92 :: raw t #[.int .i64 (most : Int), .map (some hb), .map (some mb), .int .u32 (floor : Int)] 132 :: F) w' := by
 go_enter Tryz.func65, Tryz.ntmps65
 go_wp2_with ((with_reducible refine wpList_op rfl ?_); intro _ hK; (refine dst_is 7 rfl ?_; refine wp_mrange rfl under_has H rfl (fun r arr clock w' m H => hK _ _ (Stop.go ?_))))
 refine Stop.un ?_
 go_wp2_with fail
 go_loopw [4, 5] (fun k v wr => ∃ arr seen l, RngOK ekT (fun b => .bool b) okT (fun x => decide (floor ≤ x.1)) seen0 arr clock seen l ∧ At w0 (one hb (.map arr clock) :: one r (.mapIter (some hb) clock seen clock) :: raw P #[.pointer (some ⟨t, 0, none⟩)] 92 :: raw t #[.int .i64 (most : Int), .map (some hb), .map (some mb), .int .u32 (floor : Int)] 132 :: F) wr) (fun _ _ wr => leftW wr r)
 case atStart => exact ⟨arr, #[], seen0, RngOK.start m, H⟩
 case round =>
  clear H m
  obtain ⟨arr, seen, l, R, H⟩ := hrel
  have HR := Lib.hid R
  have HW := Lib.hid (leftW_at H)
  go_wp2_with ((with_reducible refine wpList_op rfl ?_); intro _ hK; (refine dst_is 8 rfl ?_; refine wp_mnext rfl R H rfl (fun hl => hK _ _ (Stop.go ?_)) (fun j e p w' ha hp hk hv hlt H => hK _ _ (Stop.go ?_))))
  · refine Stop.un ?_
    have HL := Lib.hid hl
    clear hl R
    go_wp2_with fail
    go_end0
    exact ⟨⟨_, rfl⟩, by rw [← HL.out]; exact (H.map_close HR.out.map).maskR [true, false]⟩
  · refine Stop.un ?_
    clear R
    have HA := Lib.hid ha
    have HP := Lib.hid hp
    have HKV := Lib.hid (And.intro hk hv)
    have HLT := Lib.hid hlt
    have HK17 := Lib.hid (ekT_len (HR.out.map.keys p (List.mem_of_getElem? hp)))
    clear ha hp hk hv hlt
    go_wp2_with ((with_reducible refine wpList_op rfl ?_); intro _ hK; first
     | (refine dst_is 10 rfl ?_; refine wp_run (exec_mentry rfl HR.out.map H rfl HA.out HKV.out.1 HKV.out.2) (hK _ _ ?_))
     | (refine dst_is 4 rfl ?_; refine wp_alloc_sl 161 rfl info_tk H (fun V w' (H : At w0 (raw V ([Value.int .u32 0] ++ v8 (zs 16)).toArray 161 :: _) w') _ => hK _ _ ?_))
     | (refine sto_is 4 rfl ?_; refine wp_store_row_sl 161 _ _ rfl (cells := ([Value.int .u32 (p.1.1 : Int)] ++ v8 p.1.2).toArray) rfl rfl (by rw [List.size_toArray, HK17.out]; exact size_tk) (by simpa using one_tk p.1) 0 H rfl (by rw [List.size_toArray, List.size_toArray, HK17.out]; simp [v8_length, zs_length]) (fun w' (H : At w0 (raw V ([Value.int .u32 (p.1.1 : Int)] ++ v8 p.1.2).toArray 161 :: _) w') => hK _ _ ?_))
     | (refine dst_is 14 rfl ?_; refine wp_mid 161 _ rfl rfl ([Value.int .u32 (p.1.1 : Int)] ++ v8 p.1.2) (by kernel_rfl) (by rw [HK17.out]; exact size_tk) (at_blk H 0 rfl) (hK _ _ ?_)))
    refine (over1_c H (i := 3) (j := 4) rfl rfl p.1 p.2).mono ?_; rintro e' w'' ⟨rfl, H⟩
    by_cases hlt : p.1.1 < floor
    · rw [decide_eq_true hlt]
      have HG := Lib.hid (HR.out.gone HA.out HP.out (decide_eq_false (by omega)))
      go_wp2_with ((with_reducible refine wpList_op rfl ?_); intro _ hK; first
       | (refine dst_is 18 rfl ?_; refine wp_mid 161 _ rfl rfl ([Value.int .u32 (p.1.1 : Int)] ++ v8 p.1.2) (by kernel_rfl) (by rw [HK17.out]; exact size_tk) (at_blk H 0 rfl) (hK _ _ ?_))
       | (refine wp_mdel rfl mkT under_has HR.out.map H.tail HP.out rfl rfl rfl (fun w3 H => hK _ _ (Stop.go ?_))))
      refine Stop.un ?_
      go_wp2_with fail
      go_roundw
      case rel => exact ⟨_, _, _, HG.out, H⟩
      case measure => rw [leftW_at H, HW.out]; exact Nat.lt_of_le_of_lt (left_erase _) HLT.out
    · rw [decide_eq_false hlt]
      have HG := Lib.hid (HR.out.stay HA.out HP.out (decide_eq_true (by omega)))
      replace H := H.tail
      go_wp2_with fail
      go_roundw
      case rel => exact ⟨_, _, _, HG.out, H⟩
      case measure => rw [leftW_at H, HW.out]; exact HLT.out
set_option maxRecDepth 10000 in
set_option maxHeartbeats 2000000 in
theorem texpire_c (H : At w0 (tago t most seen many floor :: F) w) {e : Nat} (he : e < 4294967296) :
    Calls Tryz.prog 40 #[.pointer (some ⟨t, 0, none⟩), .int .u32 (e : Int)] w fun r w' => (∃ v, r = .returned v) ∧ At w0 (tago t most (seen.filter fun p => decide (max floor e ≤ p.1.1)) (many.filter fun p => decide (max floor e ≤ p.1)) (max floor e) :: F) w' := by
 obtain ⟨hb, mb, H⟩ := tag_open H
 have hmx : (if floor < e then (e : Int) else (floor : Int)) = ((max floor e : Nat) : Int) := by split <;> omega
 obtain ⟨fl, hfl⟩ : ∃ fl, fl = max floor e := ⟨_, rfl⟩
 rw [← hfl] at hmx ⊢
 clear hfl
 go_enter Tryz.func40, Tryz.ntmps40
 go_wp2_with ((with_reducible refine wpList_op rfl ?_); intro _ hK; (refine dst_is 2 rfl ?_; refine wp_box_sl (v := .pointer (some ⟨t, 0, none⟩)) 92 _ rfl rfl H (fun P w' (H : At w0 (raw P #[.pointer (some ⟨t, 0, none⟩)] 92 :: _) w') _ => hK _ _ ?_)))
 refine wpM_begin [9] ((At w0 (raw P #[.pointer (some ⟨t, 0, none⟩)] 92 :: raw t #[.int .i64 (most : Int), .map (some hb), .map (some mb), .int .u32 (floor : Int)] 132 :: mapo ekT (fun b => .bool b) okT hb seen :: mapo ek32 evN ok32 mb many :: F))) [(0, 1), (1, 1), (2, 2), (3, 2), (4, 1), (5, 2), (6, 2), (7, 2), (8, 2), (9, 0)] rfl (by kernel_rfl) (by kernel_rfl) ((H.drew)) ?_
 intro ops hOps hS
 replace H := H.drew
 refine tm hOps hS (fun w hw => raw_at (hw.heap 0 rfl) rfl) ?_
 refine tm hOps hS (fun w hw => raw_at (hw.heap 0 rfl) rfl) ?_
 iterate 2 refine fm hOps ?_
 refine tm hOps hS (fun w hw => raw_at (hw.heap 1 rfl) rfl) ?_
 iterate 4 refine fm hOps ?_
 refine wpM_next hOps rfl rfl ?_
 intro K hK
 refine wp_store_sl 36 _ _ rfl (off := 3) (v := .int .u32 (fl : Int)) rfl rfl (by kernel_rfl) rfl 1 H rfl (by simp) (fun w' (H : At w0 (raw P #[.pointer (some ⟨t, 0, none⟩)] 92 :: raw t #[.int .i64 (most : Int), .map (some hb), .map (some mb), .int .u32 (fl : Int)] 132 :: mapo ekT (fun b => .bool b) okT hb seen :: mapo ek32 evN ok32 mb many :: F) w') => ?_)
 refine hK _ _ (.inl (by decide)) ?_
 clear hK K
 simp only [nrm]
 refine wpM_end ?_
 clear hOps hS ops
 replace H := H.pull 2 rfl
 go_wp2_with ((with_reducible refine wpList_op rfl ?_); intro _ hK; first
  | (refine dst_is 15 rfl ?_; refine wp_get 92 _ rfl rfl (by kernel_rfl) (raw_at (H.heap 1 rfl) rfl) (hK _ _ ?_))
  | (refine dst_is 18 rfl ?_; refine wp_get 129 _ rfl rfl (by kernel_rfl) (raw_at (H.heap 2 rfl) rfl) (hK _ _ ?_))
  | (refine dst_is 19 rfl ?_; refine wp_mlen rfl under_has H rfl (hK _ _ ?_))
  | (refine dst_is 20 rfl ?_; refine wp_get 92 _ rfl rfl (by kernel_rfl) (raw_at (H.heap 1 rfl) rfl) (hK _ _ ?_))
  | (refine dst_is 23 rfl ?_; refine wp_get 129 _ rfl rfl (by kernel_rfl) (raw_at (H.heap 2 rfl) rfl) (hK _ _ ?_)))
 refine (delK_c H).mono ?_; rintro e' w'' ⟨⟨v1, rfl⟩, H⟩
 replace H := ((H.pull 2 rfl).pull 2 rfl).pull 3 rfl
 go_wp2_with ((with_reducible refine wpList_op rfl ?_); intro _ hK; first
  | (refine dst_is 26 rfl ?_; refine wp_get 92 _ rfl rfl (by kernel_rfl) (raw_at (H.heap 1 rfl) rfl) (hK _ _ ?_))
  | (refine dst_is 29 rfl ?_; refine wp_get 130 _ rfl rfl (by kernel_rfl) (raw_at (H.heap 2 rfl) rfl) (hK _ _ ?_)))
 refine (delE_c H).mono ?_; rintro e' w'' ⟨⟨v2, rfl⟩, H⟩
 go_wp2_with ((with_reducible refine wpList_op rfl ?_); intro _ hK; first
  | (refine dst_is 33 rfl ?_; refine wp_get 92 _ rfl rfl (by kernel_rfl) (raw_at (H.heap 1 rfl) rfl) (hK _ _ ?_))
  | (refine dst_is 36 rfl ?_; refine wp_get 129 _ rfl rfl (by kernel_rfl) (raw_at (H.heap 2 rfl) rfl) (hK _ _ ?_))
  | (refine dst_is 37 rfl ?_; refine wp_mlen rfl under_has (H.pull 3 rfl) rfl (hK _ _ ?_)))
 go_ret
 exact ⟨⟨_, rfl⟩, tag_shut (((H.pull 3 rfl).pull 3 rfl).maskR [true, true, true, false])⟩
set_option maxRecDepth 10000 in
set_option maxHeartbeats 2000000 in
theorem tadd_c (H : At w0 (tago t most seen many floor :: F) w) {e : Nat} {tag : List (BitVec 8)} (he : e < 4294967296) (ht : tag.length = 16) (h1 : floor ≤ e) (h2 : (mlook seen (e, tag)).getD false = false) (h3 : (mlook many e).getD 0 < most) (hm : most ≤ 1000) :
    Calls Tryz.prog 57 #[.pointer (some ⟨t, 0, none⟩), .int .u32 (e : Int), .agg (v8 tag).toArray] w fun r w' => (∃ v, r = .returned v) ∧ At w0 (tago t most (upd seen (e, tag) true) (upd many e ((mlook many e).getD 0 + 1)) floor :: F) w' := by
 obtain ⟨hb, mb, H⟩ := tag_open H
 have HE := Lib.hid he
 have HT := Lib.hid ht
 have H2 := Lib.hid h2
 obtain ⟨c, hc⟩ : ∃ c : Nat, c = (mlook many e).getD 0 := ⟨_, rfl⟩
 have HC := Lib.hid hc
 rw [← hc] at h3 ⊢
 have h1n : ¬ e < floor := by omega
 have h3n : ¬ most ≤ c := by omega
 have hw1 : IntKind.i64.wrap ((c : Int) + 1) = ((c + 1 : Nat) : Int) := by rw [IntKind.wrap_i64]; omega
 clear he ht h1 h2 h3 hc hm
 go_enter Tryz.func57, Tryz.ntmps57
 go_wp2_with ((with_reducible refine wpList_op rfl ?_); intro _ hK; first
  | (refine dst_is 5 rfl ?_; refine wp_box_sl (v := .agg (v8 tag).toArray) 104 _ rfl rfl H (fun A w' (H : At w0 (raw A (v8 tag).toArray 104 :: _) w') _ => hK _ _ ?_))
  | (refine dst_is 9 rfl ?_; refine wp_lda 104 _ rfl rfl (by kernel_rfl) (by rw [HT.out]; exact size_tagt) 0 H rfl (hK _ _ ?_))
  | (refine dst_is 10 rfl ?_; refine Hg.wp_build 161 _ rfl (by rw [Array.toList_map]; rfl) (built_tk HT.out _) (hK _ _ ?_))
  | (refine dst_is 7 rfl ?_; refine wp_alloc_sl 161 rfl info_tk H (fun V w' (H : At w0 (raw V ([Value.int .u32 0] ++ v8 (zs 16)).toArray 161 :: _) w') _ => hK _ _ ?_))
  | (refine sto_is 7 rfl ?_; refine wp_store_row_sl 161 _ _ rfl (cells := ([Value.int .u32 (e : Int)] ++ v8 tag).toArray) rfl rfl (by rw [List.size_toArray, ekT_len (t := (e, tag)) ⟨HE.out, HT.out⟩]; exact size_tk) (by simpa using one_tk (e, tag)) 0 H rfl (by rw [List.size_toArray, List.size_toArray, ekT_len (t := (e, tag)) ⟨HE.out, HT.out⟩]; simp [v8_length, zs_length]) (fun w' (H : At w0 (raw V ([Value.int .u32 (e : Int)] ++ v8 tag).toArray 161 :: _) w') => hK _ _ (Stop.go ?_))))
 refine Stop.un ?_
 go_wp2_with ((with_reducible refine wpList_op rfl ?_); intro _ hK; first
  | (refine dst_is 28 rfl ?_; refine wp_get 36 _ rfl rfl (by kernel_rfl) (raw_at (H.heap 2 rfl) rfl) (hK _ _ ?_)))
 have h17 := Lib.hid (ekT_len (t := (e, tag)) ⟨HE.out, HT.out⟩)
 refine wpM_begin [] ((At w0 (raw V ([Value.int .u32 (e : Int)] ++ v8 tag).toArray 161 :: raw A (v8 tag).toArray 104 :: raw t #[.int .i64 (most : Int), .map (some hb), .map (some mb), .int .u32 (floor : Int)] 132 :: mapo ekT (fun b => .bool b) okT hb seen :: mapo ek32 evN ok32 mb many :: F))) [(0, 2), (1, 2), (2, 2), (3, 1), (4, 1), (5, 1), (6, 0)] rfl (by kernel_rfl) (by kernel_rfl) ((H.drew)) ?_
 intro ops hOps hS
 replace H := H.drew
 iterate 3 refine fm hOps ?_
 refine tm hOps hS (fun w hw => raw_at (hw.heap 2 rfl) rfl) ?_
 refine wpM_take hOps hS rfl (fun _ _ _ h => h) (yl_mid rfl 161 _ rfl rfl ([Value.int .u32 (e : Int)] ++ v8 tag) (by kernel_rfl) (by rw [h17.out]; exact size_tk) (fun w hw => at_blk hw 0 rfl)) ?_
 simp only [nrm]
 refine wpM_take hOps hS rfl (fun _ _ _ h => h) (yl (v := .bool false) rfl (fun w hw => exec_look_of rfl rfl rfl ((lookT (hw.pull 3 rfl) HE.out HT.out).trans (by rw [H2.out])))) ?_
 simp only [nrm]
 refine wpM_next hOps rfl rfl ?_
 intro K hK
 refine wp_run rfl ?_
 have hS := (hS)
 refine hK _ _ (.inr hS) ?_
 clear hK K
 simp only [nrm]
 refine wpM_end ?_
 clear hOps hS ops
 go_wp2_with fail
 refine wpM_begin [] ((At w0 (raw V ([Value.int .u32 (e : Int)] ++ v8 tag).toArray 161 :: raw A (v8 tag).toArray 104 :: raw t #[.int .i64 (most : Int), .map (some hb), .map (some mb), .int .u32 (floor : Int)] 132 :: mapo ekT (fun b => .bool b) okT hb seen :: mapo ek32 evN ok32 mb many :: F))) [(0, 2), (1, 2), (2, 2), (3, 1), (4, 2), (5, 1), (6, 2), (7, 2), (8, 2), (9, 1), (10, 2), (11, 0)] rfl (by kernel_rfl) (by kernel_rfl) ((H.drew)) ?_
 intro ops hOps hS
 replace H := H.drew
 iterate 3 refine fm hOps ?_
 refine tm hOps hS (fun w hw => raw_at (hw.heap 2 rfl) rfl) ?_
 refine fm hOps ?_
 refine wpM_take hOps hS rfl (fun _ _ _ h => h) (yl (v := .int .i64 (c : Int)) rfl (fun w hw => exec_look_of rfl rfl rfl (by rw [HC.out]; exact run_look mk32 under_many zero_int (hw.pull 4 rfl) HE.out false))) ?_
 simp only [nrm]
 iterate 3 refine fm hOps ?_
 refine tm hOps hS (fun w hw => raw_at (hw.heap 2 rfl) rfl) ?_
 refine fm hOps ?_
 refine wpM_next hOps rfl rfl ?_
 intro K hK
 refine wp_run rfl ?_
 have hS := (hS)
 refine hK _ _ (.inr hS) ?_
 clear hK K
 simp only [nrm]
 refine wpM_end ?_
 clear hOps hS ops
 go_wp2_with fail
 refine wpM_begin [5] ((At w0 (raw V ([Value.int .u32 (e : Int)] ++ v8 tag).toArray 161 :: raw A (v8 tag).toArray 104 :: raw t #[.int .i64 (most : Int), .map (some hb), .map (some mb), .int .u32 (floor : Int)] 132 :: mapo ekT (fun b => .bool b) okT hb seen :: mapo ek32 evN ok32 mb many :: F))) [(0, 2), (1, 2), (2, 2), (3, 1), (4, 1), (5, 0)] rfl (by kernel_rfl) (by kernel_rfl) ((H.drew)) ?_
 intro ops hOps hS
 replace H := H.drew
 iterate 3 refine fm hOps ?_
 refine tm hOps hS (fun w hw => raw_at (hw.heap 2 rfl) rfl) ?_
 refine wpM_take hOps hS rfl (fun _ _ _ h => h) (yl_mid rfl 161 _ rfl rfl ([Value.int .u32 (e : Int)] ++ v8 tag) (by kernel_rfl) (by rw [h17.out]; exact size_tk) (fun w hw => at_blk hw 0 rfl)) ?_
 simp only [nrm]
 refine wpM_next hOps rfl rfl ?_
 intro K hK
 refine wp_upd rfl mkT under_has (H.pull 3 rfl) rfl rfl rfl (x := (e, tag)) rfl ⟨HE.out, HT.out⟩ (v := true) rfl (fun w' H => ?_)
 refine hK _ _ (.inl (by decide)) ?_
 clear hK K
 simp only [nrm]
 refine wpM_end ?_
 clear hOps hS ops
 go_wp2_with ((with_reducible refine wpList_op rfl ?_); intro _ hK; first
  | (refine dst_is 19 rfl ?_; refine wp_get 130 _ rfl rfl (by kernel_rfl) (raw_at (H.heap 3 rfl) rfl) (hK _ _ ?_))
  | (refine dst_is 21 rfl ?_; refine wp_run (exec_look_of rfl rfl rfl (v := .int .i64 (c : Int)) (by rw [HC.out]; exact run_look mk32 under_many zero_int (H.pull 4 rfl) HE.out false)) (hK _ _ ?_))
  | (refine wp_upd rfl mk32 under_many (H.pull 4 rfl) rfl rfl rfl (x := e) rfl HE.out (v := c + 1) rfl (fun w' H => hK _ _ (Stop.go ?_))))
 refine Stop.un ?_
 go_wp2_with fail
 go_ret
 exact ⟨⟨_, rfl⟩, tag_shut (((H.pull 1 rfl).pull 4 rfl).maskR [true, true, true, false, false])⟩
set_option maxRecDepth 10000 in
set_option maxHeartbeats 1000000 in
theorem tnew_c (H : At w0 F w) (z : Int) (hz : 1 ≤ z) :
    Calls Tryz.prog 30 #[.int .i64 z] w fun r w' => ∃ t : Nat, r = .returned (.pointer (some ⟨t, 0, none⟩)) ∧ At w0 (tago t z.toNat [] [] 0 :: F) w' := by
 have hz2 : (if z < 1 then 1 else z) = z := if_neg (by omega)
 have hz3 := Lib.hid (show (z.toNat : Int) = z by omega)
 go_enter Tryz.func30, Tryz.ntmps30
 go_wp2_with ((with_reducible refine wpList_op rfl ?_); intro _ hK; first
  | (refine dst_is 5 rfl ?_; refine wp_mkmap (ek := ekT) (ev := fun b : Bool => .bool b) (ok := okT) rfl H (fun hb w' H => hK _ _ ?_))
  | (refine dst_is 6 rfl ?_; refine wp_mkmap (ek := ek32) (ev := evN) (ok := ok32) rfl H (fun mb w' H => hK _ _ ?_))
  | (refine dst_is 8 rfl ?_; refine wp_box_sl (v := .agg #[.int .i64 z, .map (some hb), .map (some mb), .int .u32 0]) 132 _ rfl rfl H (fun t w' (H : At w0 (raw t #[.int .i64 z, .map (some hb), .map (some mb), .int .u32 0] 132 :: _) w') _ => hK _ _ ?_)))
 go_ret
 exact ⟨t, rfl, tag_shut (((H.pull 1 rfl).pull 2 rfl).pull 2 rfl |>.imp1 fun h s => by rw [hz3.out]; exact s)⟩
end
end Go.Proofs.YtmflbekabkainaaGreatDoor
