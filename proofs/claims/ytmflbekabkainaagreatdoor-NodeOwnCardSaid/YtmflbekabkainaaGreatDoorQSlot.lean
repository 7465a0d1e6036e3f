import Derived.Test.YtmflbekabkainaaGreatDoorQHgC
import Derived.Test.YtmflbekabkainaaGreatDoorQOctR
import Derived.Test.YtmflbekabkainaaGreatDoorQChb
set_option linter.unusedVariables false
set_option linter.unusedSimpArgs false
namespace Go.Proofs.YtmflbekabkainaaGreatDoor
open Go.RowKit Go.Hg
theorem info_slot : (Tryz.prog.info? 60).map (fun i => (i.zero, i.size, i.bytes)) = some (some (.agg SlotD.zero.cells.toArray), 40, 72) := by kernel_rfl
theorem size_slot : (Tryz.prog.info? 60).map (·.size) = some 40 := by kernel_rfl
theorem flat_slot : flatK Tryz.prog 6 60 = some SlotD.kinds := by kernel_rfl
theorem cells_slot : Tryz.prog.cellsOf 60 = SlotD.kinds.length := by kernel_rfl
theorem key_slot : Tryz.prog.keyTypeAt 6 60 = true := by kernel_rfl
theorem guard_slot : Tryz.prog.eqGuardType Tryz.prog.depth 60 = false := by kernel_rfl
theorem row_slot : (match Tryz.prog.underlying 60 with | some (.struct _) => true | some (.array _ _) => true | _ => false) = true := by kernel_rfl
theorem slot_run {w0 w : World} {L : List SP} (H : At w0 L w) (k : Nat) {b : Nat} {s : SlotD} {t : TypeId} (hk : L[k]? = some (raw b s.cells.toArray t)) (hn : s.nonce.length = 16) (hm : s.mac.length = 16) :
    w.cell? ⟨b, 0, none⟩ = some (.bool s.last) ∧ w.cell? ⟨b, 1, none⟩ = some (.int .u16 (s.next : Int)) ∧ w.cell? ⟨b, 2, none⟩ = some (.int .u16 (s.box : Int)) ∧ w.cell? ⟨b, 3, none⟩ = some (.int .u16 (s.who : Int)) ∧ w.cell? ⟨b, 4, none⟩ = some (.int .u32 (s.epoch : Int)) ∧
    w.cell? ⟨b, 37, none⟩ = some (.int .u64 (s.lo : Int)) ∧ w.cell? ⟨b, 38, none⟩ = some (.int .u64 (s.hi : Int)) ∧ w.cell? ⟨b, 39, none⟩ = some (.int .u32 (s.delay : Int)) :=
 ⟨at_raw H k hk rfl, at_raw H k hk rfl, at_raw H k hk rfl, at_raw H k hk rfl, at_raw H k hk rfl, at_raw H k hk (s.cells_post hn hm 0), at_raw H k hk (s.cells_post hn hm 1), at_raw H k hk (s.cells_post hn hm 2)⟩
set_option maxRecDepth 10000 in
set_option maxHeartbeats 1000000 in
theorem only_c {w0 w : World} {F : List SP} {s : SlotD} (H : At w0 F w) (hn : s.nonce.length = 16) (hm : s.mac.length = 16) :
    Calls Tryz.prog 151 #[.agg s.cells.toArray] w fun e w' => e = .returned (.agg s.only.cells.toArray) ∧ At w0 F w' := by
 have hs40 := Lib.hid (SlotD.cells_length hn hm)
 have hon : s.only.nonce.length = 16 := by unfold SlotD.only; split <;> first | exact zs_length 16 | exact hn
 have hom : s.only.mac.length = 16 := by unfold SlotD.only; split <;> first | exact zs_length 16 | exact hm
 have ho40 := Lib.hid (SlotD.cells_length hon hom)
 have hz40 : SlotD.zero.cells.length = 40 := rfl
 obtain ⟨T, hT⟩ : ∃ T, T = s.only.cells := ⟨_, rfl⟩
 have hT1 := Lib.hid (show ∀ u ∈ T, u.oneCell' = true by rw [hT]; exact SlotD.cells_one)
 rw [← hT] at ho40 ⊢
 have hsz : (Tryz.prog.info? 60).map (·.size) = some T.length := by rw [ho40.out]; exact size_slot
 have HSZ := Lib.hid hsz
 have HN := Lib.hid hn
 have HM := Lib.hid hm
 clear hn hm hon hom hsz
 cases hl : s.last with
 | true =>
  have hc0 : ∀ (wr : World) (L : List SP) (b : Nat) (t : TypeId) (k : Nat), At w0 L wr → L[k]? = some (raw b s.cells.toArray t) → wr.cell? ⟨b, 0, none⟩ = some (.bool true) := fun wr L b t k Hr hk => by rw [← hl]; exact (slot_run Hr k hk HN.out HM.out).1
  have hbt : (SlotD.mk true 0 s.box 0 0 (zs 16) (zs 16) s.lo s.hi s.delay).cells = T := by rw [hT]; unfold SlotD.only; rw [hl]; rfl
  have HBT := Lib.hid hbt
  have HC := Lib.hid hc0
  clear hT hbt hc0 hl
  go_enter Tryz.func151, Tryz.ntmps151
  go_wp2_with ((with_reducible refine wpList_op rfl ?_); intro _ hK; first
   | (refine wp_box_sl (v := .agg s.cells.toArray) 60 _ rfl rfl H (fun A w' (H : At w0 (raw A s.cells.toArray 60 :: F) w') _ => hK _ _ ?_))
   | (refine wp_alloc_sl 60 rfl info_slot H (fun O w' (H : At w0 (raw O SlotD.zero.cells.toArray 60 :: raw A s.cells.toArray 60 :: F) w') _ => hK _ _ ?_))
   | (refine wp_get 4 _ rfl rfl (by kernel_rfl) (HC.out _ _ _ _ 1 H rfl) (hK _ _ ?_))
   | (refine wp_get 55 _ rfl rfl (by kernel_rfl) (slot_run H 1 rfl HN.out HM.out).2.2.1 (hK _ _ ?_))
   | (refine wp_get 22 _ rfl (p := ⟨_, 37, none⟩) rfl (by kernel_rfl) (slot_run H 1 rfl HN.out HM.out).2.2.2.2.2.1 (hK _ _ ?_))
   | (refine wp_get 22 _ rfl (p := ⟨_, 38, none⟩) rfl (by kernel_rfl) (slot_run H 1 rfl HN.out HM.out).2.2.2.2.2.2.1 (hK _ _ ?_))
   | (refine wp_get 36 _ rfl rfl (by kernel_rfl) (slot_run H 1 rfl HN.out HM.out).2.2.2.2.2.2.2 (hK _ _ ?_))
   | (refine wp_store_row_sl 60 _ _ rfl (cells := (SlotD.mk true 0 s.box 0 0 (zs 16) (zs 16) s.lo s.hi s.delay).cells.toArray) rfl rfl (by rw [HBT.out, List.size_toArray]; exact HSZ.out) (by rw [HBT.out]; simpa using hT1.out) 0 H rfl (by rw [HBT.out, List.size_toArray, List.size_toArray, ho40.out]; rfl) (fun w' H => ?_); rw [HBT.out] at H; replace H : At w0 (raw O T.toArray 60 :: raw A s.cells.toArray 60 :: F) w' := H; refine hK _ _ ?_))
  exact bodyPost_ret (v := .agg T.toArray) (results_row rfl _ rfl (at_blk H 0 rfl) (by kernel_rfl) HSZ.out) rfl ⟨rfl, H.tail.tail⟩
 | false =>
  have hc0 : ∀ (wr : World) (L : List SP) (b : Nat) (t : TypeId) (k : Nat), At w0 L wr → L[k]? = some (raw b s.cells.toArray t) → wr.cell? ⟨b, 0, none⟩ = some (.bool false) := fun wr L b t k Hr hk => by rw [← hl]; exact (slot_run Hr k hk HN.out HM.out).1
  have hbt : s.cells.toArray.setIfInBounds 2 (.int .u16 0) = T.toArray := by
   have h := SlotD.set_box s 0
   have e : ({ s with box := 0 } : SlotD).cells = T := by rw [hT]; unfold SlotD.only; rw [hl]; rfl
   rw [← e, ← h]
   rfl
  have HBT := Lib.hid hbt
  have HC := Lib.hid hc0
  clear hT hbt hc0 hl
  go_enter Tryz.func151, Tryz.ntmps151
  go_wp2_with ((with_reducible refine wpList_op rfl ?_); intro _ hK; first
   | (refine wp_box_sl (v := .agg s.cells.toArray) 60 _ rfl rfl H (fun A w' (H : At w0 (raw A s.cells.toArray 60 :: F) w') _ => hK _ _ ?_))
   | (refine wp_alloc_sl 60 rfl info_slot H (fun O w' (H : At w0 (raw O SlotD.zero.cells.toArray 60 :: raw A s.cells.toArray 60 :: F) w') _ => hK _ _ ?_))
   | (refine wp_get 4 _ rfl rfl (by kernel_rfl) (HC.out _ _ _ _ 1 H rfl) (hK _ _ ?_))
   | (refine wp_store_sl 55 _ _ rfl (off := 2) (v := .int .u16 0) rfl rfl (by kernel_rfl) rfl 1 H rfl (by rw [List.size_toArray, hs40.out]; omega) (fun w' H => ?_); rw [HBT.out] at H; replace H : At w0 (raw O SlotD.zero.cells.toArray 60 :: raw A T.toArray 60 :: F) w' := H; refine hK _ _ ?_)
   | (refine wp_mid 60 _ rfl rfl T (by kernel_rfl) HSZ.out (at_blk H 1 rfl) (hK _ _ ?_))
   | (refine wp_store_row_sl 60 _ _ rfl (cells := T.toArray) rfl rfl (by rw [List.size_toArray]; exact HSZ.out) (by simpa using hT1.out) 0 H rfl (by rw [List.size_toArray, List.size_toArray, ho40.out]; rfl) (fun w' (H : At w0 (raw O T.toArray 60 :: raw A T.toArray 60 :: F) w') => hK _ _ ?_)))
  exact bodyPost_ret (v := .agg T.toArray) (results_row rfl _ rfl (at_blk H 0 rfl) (by kernel_rfl) HSZ.out) rfl ⟨rfl, H.tail.tail⟩
theorem right_iff {s : SlotD} (h : s.ok) : eqB s.cells s.only.cells = decide (s = s.only) := by
 rw [Bool.eq_iff_iff, eqB_iff, decide_eq_true_iff]
 exact ⟨fun e => SlotD.cells_inj h (SlotD.only_ok h) e, fun e => by rw [← e]⟩
set_option maxRecDepth 10000 in
set_option maxHeartbeats 1000000 in
theorem right_c {w0 w : World} {F : List SP} {s : SlotD} (H : At w0 F w) (h : s.ok) :
    Calls Tryz.prog 133 #[.agg s.cells.toArray] w fun e w' => e = .returned (.int .i64 (if s.right then 0 else 1)) ∧ At w0 F w' := by
 have hs40 := Lib.hid (SlotD.cells_length h.nonce h.mac)
 have HOK := Lib.hid h
 obtain ⟨R, hR⟩ : ∃ R : Int, R = if s.right then 0 else 1 := ⟨_, rfl⟩
 rw [← hR]
 have HR := Lib.hid hR
 obtain ⟨E, hE⟩ : ∃ E, E = eqB s.cells s.only.cells := ⟨_, rfl⟩
 have HE := Lib.hid hE
 have heq : ∀ (ops : Array Oper) (S : World → Prop) (o : Oper) (a : Act) (x y : Operand) (yt : TypeId), Region.wanted o (yielded ops a.tmps) = true → o.op = .binOp .neq 60 x y yt → a.eval x = .agg s.cells.toArray → a.eval y = .agg s.only.cells.toArray → YieldsIf Tryz.prog ops S o (.bool (!E)) a := fun ops S o a x y yt hw ho hx hy => yl hw fun w _ => by
  rw [HE.out]
  exact exec_neq_flat ho hx hy (by omega) key_slot row_slot flat_slot cells_slot guard_slot (SlotD.fits_cells HOK.out) (SlotD.fits_cells (SlotD.only_ok HOK.out))
 have HEQ := Lib.hid heq
 by_cases hlo : (s.hi : Int) < (s.lo : Int)
 · have hr1 : R = 1 := by rw [hR]; unfold SlotD.right; rw [if_neg]; intro hc; have := (of_decide_eq_true hc).1; omega
   have HR1 := Lib.hid hr1
   clear hR hE heq h hr1
   go_enter Tryz.func133, Tryz.ntmps133
   go_wp2_with ((with_reducible refine wpList_op rfl ?_); intro _ hK; refine wp_box_sl (v := .agg s.cells.toArray) 60 _ rfl rfl H (fun A w' (H : At w0 (raw A s.cells.toArray 60 :: F) w') _ => hK _ _ ?_))
   refine wpL_begin 11 (At w0 (raw A s.cells.toArray 60 :: F)) [(0, true), (1, true), (2, true), (3, true), (4, true), (5, true), (6, true), (7, true), (8, false), (9, true), (10, true)] rfl (by kernel_rfl) (by kernel_rfl) ((H.drew)) ?_
   intro ops hOps hS
   replace H := H.drew
   refine fl hOps hS ?_
   refine tl hOps hS (fun w hw => (slot_run hw 0 rfl HOK.out.nonce HOK.out.mac).2.2.2.2.2.1) ?_
   refine fl hOps hS ?_
   refine tl hOps hS (fun w hw => (slot_run hw 0 rfl HOK.out.nonce HOK.out.mac).2.2.2.2.2.2.1) ?_
   iterate 2 refine fl hOps hS ?_
   refine wpL_take hOps hS rfl (fun _ _ _ h => h) (yn rfl) ?_
   simp only [nrm]
   refine wpL_take hOps hS rfl (fun _ _ _ h => h) (yn rfl) ?_
   simp only [nrm]
   refine wpL_skip hOps hS rfl rfl ?_
   simp only [nrm]
   refine wpL_take hOps hS rfl (fun _ _ _ h => h) (yn rfl) ?_
   simp only [nrm]
   refine fl hOps hS ?_
   refine wpL_end ?_
   clear hOps hS ops
   go_wp2
   go_ret
   exact ⟨by rw [HR1.out]; rfl, H.tail⟩
 · have hr1 : R = if E then 0 else 1 := by
     rw [hR, hE, right_iff h]
     unfold SlotD.right
     have : s.lo ≤ s.hi := by omega
     simp [this]
   have hd1 : decide (s.hi < s.lo) = false := decide_eq_false (by omega)
   have hd2 : ¬ s.hi < s.lo := by omega
   have HR1 := Lib.hid hr1
   clear hR hE heq h hr1
   go_enter Tryz.func133, Tryz.ntmps133
   go_wp2_with ((with_reducible refine wpList_op rfl ?_); intro _ hK; refine wp_box_sl (v := .agg s.cells.toArray) 60 _ rfl rfl H (fun A w' (H : At w0 (raw A s.cells.toArray 60 :: F) w') _ => hK _ _ ?_))
   refine wpL_begin 11 (At w0 (raw A s.cells.toArray 60 :: F)) [(0, true), (1, true), (2, true), (3, true), (4, true), (5, true), (6, true), (7, true), (8, false), (9, true), (10, true)] rfl (by kernel_rfl) (by kernel_rfl) ((H.drew)) ?_
   intro ops hOps hS
   replace H := H.drew
   refine fl hOps hS ?_
   refine tl hOps hS (fun w hw => (slot_run hw 0 rfl HOK.out.nonce HOK.out.mac).2.2.2.2.2.1) ?_
   refine fl hOps hS ?_
   refine tl hOps hS (fun w hw => (slot_run hw 0 rfl HOK.out.nonce HOK.out.mac).2.2.2.2.2.2.1) ?_
   iterate 2 refine fl hOps hS ?_
   refine wpL_take hOps hS rfl (fun _ _ _ h => h) (yl_mid rfl _ _ rfl rfl s.cells (by kernel_rfl) (by rw [hs40.out]; exact size_slot) (fun w hw => at_blk hw 0 rfl)) ?_
   simp only [nrm]
   refine wpL_take hOps hS rfl (fun _ _ _ h => h) (yl_mid rfl _ _ rfl rfl s.cells (by kernel_rfl) (by rw [hs40.out]; exact size_slot) (fun w hw => at_blk hw 0 rfl)) ?_
   simp only [nrm]
   refine wpL_next hOps rfl rfl ?_
   intro K hK
   refine wp_call _ _ _ rfl Tryz.func151 rfl (by kernel_rfl) ?_
   simp only [List.map_toArray, List.map_cons, List.map_nil, Act.eval, Array.getD_eq_getD_getElem?, List.getElem?_toArray, List.getElem?_cons_zero, List.getElem?_cons_succ, Option.getD_some]
   refine (only_c H HOK.out.nonce HOK.out.mac).mono ?_; rintro e w' ⟨rfl, H⟩
   have hS := (H)
   refine hK _ _ hS ?_
   clear hK K
   simp only [nrm]
   refine wpL_take hOps hS rfl (fun _ _ _ h => h) (HEQ.out _ _ _ _ _ _ _ rfl rfl rfl rfl) ?_
   simp only [nrm]
   refine fl hOps hS ?_
   refine wpL_end ?_
   clear hOps hS ops
   cases E
   · go_wp2
     go_ret
     exact ⟨by rw [HR1.out]; rfl, H.tail⟩
   · go_wp2
     go_ret
     exact ⟨by rw [HR1.out]; rfl, H.tail⟩
set_option maxRecDepth 10000 in
set_option maxHeartbeats 1000000 in
theorem first_c {w0 w : World} {F : List SP} {s : SlotD} (H : At w0 F w) (hn : s.nonce.length = 16) (hm : s.mac.length = 16) :
    Calls Tryz.prog 152 #[.agg s.cells.toArray] w fun e w' => e = .returned (.tuple #[.int .u8 (s.kind : Int), .int .u16 (s.to : Int)]) ∧ At w0 F w' := by
 have HN := Lib.hid hn
 have HM := Lib.hid hm
 clear hn hm
 obtain ⟨K, hK⟩ : ∃ K, K = s.kind := ⟨_, rfl⟩
 obtain ⟨T, hT⟩ : ∃ T, T = s.to := ⟨_, rfl⟩
 rw [← hK, ← hT]
 cases hl : s.last with
 | true =>
  have hk : K = 1 := by rw [hK]; unfold SlotD.kind; rw [hl]; rfl
  have ht : T = s.box := by rw [hT]; unfold SlotD.to; rw [hl]; rfl
  have HC := Lib.hid (fun (wr : World) (L : List SP) (b : Nat) (t : TypeId) (k : Nat) (Hr : At w0 L wr) (hk : L[k]? = some (raw b s.cells.toArray t)) => (show wr.cell? ⟨b, 0, none⟩ = some (.bool true) by rw [← hl]; exact (slot_run Hr k hk HN.out HM.out).1))
  subst hk ht
  clear hK hT hl
  go_enter Tryz.func152, Tryz.ntmps152
  go_wp2_with ((with_reducible refine wpList_op rfl ?_); intro _ hK; first
   | (refine wp_box_sl (v := .agg s.cells.toArray) 60 _ rfl rfl H (fun A w' (H : At w0 (raw A s.cells.toArray 60 :: F) w') _ => hK _ _ ?_))
   | (refine wp_get 4 _ rfl rfl (by kernel_rfl) (HC.out _ _ _ _ 0 H rfl) (hK _ _ ?_)))
  refine wpM_begin [] ((At w0 (raw A s.cells.toArray 60 :: F))) [(0, 2), (1, 1), (2, 0), (3, 0)] rfl (by kernel_rfl) (by kernel_rfl) ((H.drew)) ?_
  intro ops hOps hS
  replace H := H.drew
  refine fm hOps ?_
  refine tm hOps hS (fun w hw => (slot_run hw 0 rfl HN.out HM.out).2.2.1) ?_
  refine wpM_next hOps rfl rfl ?_
  intro K hK
  refine wp_run rfl ?_
  have hS := (hS)
  refine hK _ _ (.inr hS) ?_
  clear hK K
  simp only [nrm]
  refine wpM_next hOps rfl rfl ?_
  intro K hK
  refine wp_run rfl ?_
  have hS := (hS)
  refine hK _ _ (.inr hS) ?_
  clear hK K
  simp only [nrm]
  refine wpM_end ?_
  clear hOps hS ops
  go_wp2
  go_ret2
  exact ⟨rfl, H.tail⟩
 | false =>
  have hk : K = 0 := by rw [hK]; unfold SlotD.kind; rw [hl]; rfl
  have ht : T = s.next := by rw [hT]; unfold SlotD.to; rw [hl]; rfl
  have HC := Lib.hid (fun (wr : World) (L : List SP) (b : Nat) (t : TypeId) (k : Nat) (Hr : At w0 L wr) (hk : L[k]? = some (raw b s.cells.toArray t)) => (show wr.cell? ⟨b, 0, none⟩ = some (.bool false) by rw [← hl]; exact (slot_run Hr k hk HN.out HM.out).1))
  subst hk ht
  clear hK hT hl
  go_enter Tryz.func152, Tryz.ntmps152
  go_wp2_with ((with_reducible refine wpList_op rfl ?_); intro _ hK; first
   | (refine wp_box_sl (v := .agg s.cells.toArray) 60 _ rfl rfl H (fun A w' (H : At w0 (raw A s.cells.toArray 60 :: F) w') _ => hK _ _ ?_))
   | (refine wp_get 4 _ rfl rfl (by kernel_rfl) (HC.out _ _ _ _ 0 H rfl) (hK _ _ ?_)))
  refine wpM_begin [] ((At w0 (raw A s.cells.toArray 60 :: F))) [(0, 2), (1, 1), (2, 0), (3, 0)] rfl (by kernel_rfl) (by kernel_rfl) ((H.drew)) ?_
  intro ops hOps hS
  replace H := H.drew
  refine fm hOps ?_
  refine tm hOps hS (fun w hw => (slot_run hw 0 rfl HN.out HM.out).2.1) ?_
  refine wpM_next hOps rfl rfl ?_
  intro K hK
  refine wp_run rfl ?_
  have hS := (hS)
  refine hK _ _ (.inr hS) ?_
  clear hK K
  simp only [nrm]
  refine wpM_next hOps rfl rfl ?_
  intro K hK
  refine wp_run rfl ?_
  have hS := (hS)
  refine hK _ _ (.inr hS) ?_
  clear hK K
  simp only [nrm]
  refine wpM_end ?_
  clear hOps hS ops
  go_wp2
  go_ret2
  exact ⟨rfl, H.tail⟩
end Go.Proofs.YtmflbekabkainaaGreatDoor
