import Derived.Test.YtmflbekabkainaaGreatDoorQNRep
import Derived.Test.YtmflbekabkainaaGreatDoorQNHeapC
import Derived.Test.YtmflbekabkainaaGreatDoorQNMail
import Derived.Test.YtmflbekabkainaaGreatDoorQFree
import Derived.Test.YtmflbekabkainaaGreatDoorQNodeS
set_option linter.unusedVariables false
set_option linter.unusedSimpArgs false
namespace Go.Proofs.YtmflbekabkainaaGreatDoor
open Go.RowKit Go.Hg
def toU (b : Bytes) : List UInt8 := b.map UInt8.ofBitVec
theorem bl_toU (b : Bytes) : Go.Hg.bl (toU b) = v8 b := by
 unfold toU v8
 simp [Go.Hg.bl]
 intro a _
 rfl
theorem bv_toU (b : Bytes) : bv (toU b) = (v8 b).toArray := by
 rw [← bl_toU]
 rfl
def ekW (n : Nat) : Value := .int .u16 (n : Int)
def okW (n : Nat) : Prop := n < 65536
def evK (k : Bytes) : Value := .agg (v8 k).toArray
def dropsC (l : List Nat) : List Value := l.map fun d : Nat => Value.int .i64 (d : Int)
def nodeC (s : NodeD) (cb hb tb mb : Nat) : List Value := [.int .u16 (s.addr : Int), .int .i64 (s.room : Int), .int .i64 (s.tags : Int), .map (some cb), .pointer (some ⟨hb, 0, none⟩), .pointer (some ⟨tb, 0, none⟩), .pointer (some ⟨mb, 0, none⟩)] ++ dropsC s.drops
def mailU (l : List (List Bytes)) : List (List (List UInt8)) := l.map fun xs => xs.map toU
def nodeo (p mb : Nat) (s : NodeD) : SP := fun h => ∃ cb hb tb : Nat, seps [raw p (nodeC s cb hb tb mb).toArray 96, mapo ekW evK okW cb s.cl, heapW hb (s.room : Int) (s.nx : Int) s.hp, tago tb s.tags s.seen s.many s.floor, Mb.mail mb (mailU s.mail)] h
theorem node_open {w0 w : World} {F : List SP} {p mb : Nat} {s : NodeD} (H : At w0 (nodeo p mb s :: F) w) : ∃ cb hb tb : Nat, At w0 (raw p (nodeC s cb hb tb mb).toArray 96 :: mapo ekW evK okW cb s.cl :: heapW hb (s.room : Int) (s.nx : Int) s.hp :: tago tb s.tags s.seen s.many s.floor :: Mb.mail mb (mailU s.mail) :: F) w := by
 obtain ⟨b, h, ⟨h1, h2, ⟨cb, hb, tb, x⟩, q', r⟩, t, u⟩ := H
 exact ⟨cb, hb, tb, b, h, seps_join [_, _, _, _, _] h ⟨h1, h2, x, q', r⟩, t, u⟩
theorem node_shut {w0 w : World} {F : List SP} {p mb cb hb tb : Nat} {s : NodeD} (H : At w0 (raw p (nodeC s cb hb tb mb).toArray 96 :: mapo ekW evK okW cb s.cl :: heapW hb (s.room : Int) (s.nx : Int) s.hp :: tago tb s.tags s.seen s.many s.floor :: Mb.mail mb (mailU s.mail) :: F) w) : At w0 (nodeo p mb s :: F) w :=
 H.imp fun h x => sep_mono (seps_split [_, _, _, _, _] h x) (fun _ x => ⟨cb, hb, tb, x⟩) (fun _ x => x)
attribute [irreducible] nodeo
theorem under_clients : Tryz.prog.underlying 83 = some (.map 45 41) := by kernel_rfl
theorem under_who : Tryz.prog.underlying 45 = some (.int .u16) := by kernel_rfl
theorem zero_key (w : World) : (zeroValue 41).run Tryz.prog w = .ok (evK (zs 32)) w := by kernel_rfl
theorem info_keyt : (Tryz.prog.info? 41).map (fun i => (i.zero, i.size, i.bytes)) = some (some (.agg (v8 (zs 32)).toArray), 32, 32) := by kernel_rfl
theorem mkW : MK Tryz.prog 45 ekW okW where
 law := Go.Maps.int_keyed under_who
 key x hx := ⟨_, Go.Maps.keyOf_int_mk under_who (wf_u16 hx)⟩
 inj x y _ _ h := by
  simp [ekW] at h
  exact_mod_cast h
section
variable {w0 w : World} {F : List SP} {p mb : Nat} {s : NodeD}
set_option maxRecDepth 10000 in
set_option maxHeartbeats 400000 in
theorem naddr_c (H : At w0 (nodeo p mb s :: F) w) : Calls Tryz.prog 28 #[.pointer (some ⟨p, 0, none⟩)] w fun e w' => e = .returned (.int .u16 (s.addr : Int)) ∧ w = w' := by
 obtain ⟨cb, hb, tb, H⟩ := node_open H
 have hc : w.cell? ⟨p, 0, none⟩ = some (.int .u16 (s.addr : Int)) := raw_at (H.heap 0 rfl) rfl
 go_enter Tryz.func28, Tryz.ntmps28
 go_wp2
 go_ret
 exact ⟨rfl, rfl⟩
set_option maxRecDepth 10000 in
set_option maxHeartbeats 400000 in
theorem nmail_c (H : At w0 (nodeo p mb s :: F) w) : Calls Tryz.prog 14 #[.pointer (some ⟨p, 0, none⟩)] w fun e w' => e = .returned (.pointer (some ⟨mb, 0, none⟩)) ∧ w = w' := by
 obtain ⟨cb, hb, tb, H⟩ := node_open H
 have hc : w.cell? ⟨p, 6, none⟩ = some (.pointer (some ⟨mb, 0, none⟩)) := raw_at (H.heap 0 rfl) rfl
 go_enter Tryz.func14, Tryz.ntmps14
 go_wp2
 go_ret
 exact ⟨rfl, rfl⟩
set_option maxRecDepth 10000 in
set_option maxHeartbeats 400000 in
theorem nlen_c (H : At w0 (nodeo p mb s :: F) w) : Calls Tryz.prog 25 #[.pointer (some ⟨p, 0, none⟩)] w fun e w' => e = .returned (.int .i64 (s.hp.length : Int)) ∧ w = w' := by
 obtain ⟨cb, hb, tb, H⟩ := node_open H
 have hc : w.cell? ⟨p, 4, none⟩ = some (.pointer (some ⟨hb, 0, none⟩)) := raw_at (H.heap 0 rfl) rfl
 go_enter Tryz.func25, Tryz.ntmps25
 go_wp2_with fail
 refine (lenW_c (H.pull 2 rfl)).mono ?_; rintro e w' ⟨rfl, rfl⟩
 go_wp2
 go_ret
 exact ⟨rfl, rfl⟩
theorem mlen_c (H : At w0 (nodeo p mb s :: F) w) {k : Nat} (hk : k < 65536) : Calls Tryz.prog 26 #[.pointer (some ⟨mb, 0, none⟩), .int .u16 (k : Int)] w fun e w' => e = .returned (.int .i64 ((s.mail.getD k []).length : Int)) ∧ w = w' := by
 obtain ⟨cb, hb, tb, H⟩ := node_open H
 refine (Mb.len_c (H.pull 4 rfl) (k : Int) (by omega) (by omega)).mono ?_
 rintro e w' ⟨rfl, rfl⟩
 refine ⟨?_, rfl⟩
 have e1 : Mb.lenM (mailU s.mail) (k : Int).toNat = (s.mail.getD k []).length := by
  unfold Mb.lenM mailU
  rw [Int.toNat_natCast, List.getD_eq_getElem?_getD, List.getD_eq_getElem?_getD, List.getElem?_map]
  cases s.mail[k]? <;> simp
 rw [e1]
theorem drops_len (l : List Nat) : (dropsC l).length = l.length := by simp [dropsC]
theorem drops_one (l : List Nat) : ∀ u ∈ dropsC l, u.oneCell' = true := fun u hu => by
 unfold dropsC at hu
 obtain ⟨d, _, rfl⟩ := List.mem_map.1 hu
 rfl
theorem size_a13 : (Tryz.prog.info? 47).map (·.size) = some 13 := by kernel_rfl
theorem info_a13 : (Tryz.prog.info? 47).map (fun i => (i.zero, i.size, i.bytes)) = some (some (.agg (dropsC (List.replicate 13 0)).toArray), 13, 104) := by kernel_rfl
theorem part_drops {cb hb tb : Nat} (h : s.drops.length = 13) : ((nodeC s cb hb tb mb).drop 7).take 13 = dropsC s.drops := part2 rfl (by rw [drops_len, h])
set_option maxRecDepth 10000 in
set_option maxHeartbeats 1000000 in
theorem ndrops_c (H : At w0 (nodeo p mb s :: F) w) (h : s.drops.length = 13) : Calls Tryz.prog 19 #[.pointer (some ⟨p, 0, none⟩)] w fun e w' => e = .returned (.agg (dropsC s.drops).toArray) ∧ At w0 (nodeo p mb s :: F) w' := by
 obtain ⟨cb, hb, tb, H⟩ := node_open H
 have hd := Lib.hid (part_drops (mb := mb) (cb := cb) (hb := hb) (tb := tb) h)
 have hl := Lib.hid (show (dropsC s.drops).length = 13 by rw [drops_len, h])
 clear h
 go_enter Tryz.func19, Tryz.ntmps19
 go_wp2_with ((with_reducible refine wpList_op rfl ?_); intro _ hK; first
  | (refine dst_is 2 rfl ?_; refine wp_alloc_sl 47 rfl info_a13 H (fun X w' (H : At w0 (raw X (dropsC (List.replicate 13 0)).toArray 47 :: _) w') _ => hK _ _ ?_))
  | (refine dst_is 6 rfl ?_; refine wp_mid 47 _ rfl (b := p) (off := 7) rfl (dropsC s.drops) (by kernel_rfl) (by rw [hl.out]; exact size_a13) (at_part H 1 rfl (by rw [hl.out]; exact hd.out)) (hK _ _ ?_))
  | (refine sto_is 2 rfl ?_; refine wp_store_row_sl 47 _ _ rfl (cells := (dropsC s.drops).toArray) rfl rfl (by rw [List.size_toArray, hl.out]; exact size_a13) (by simpa using drops_one s.drops) 0 H rfl (by rw [List.size_toArray, List.size_toArray, hl.out]; rfl) (fun w' (H : At w0 (raw X (dropsC s.drops).toArray 47 :: _) w') => hK _ _ ?_)))
 exact bodyPost_ret (v := .agg (dropsC s.drops).toArray) (results_row rfl _ rfl (at_blk H 0 rfl) (by kernel_rfl) (by rw [hl.out]; exact size_a13)) rfl ⟨rfl, node_shut H.tail⟩
set_option maxRecDepth 10000 in
set_option maxHeartbeats 1000000 in
theorem ndropO_c {cb hb tb : Nat} (H : At w0 (raw p (nodeC s cb hb tb mb).toArray 96 :: mapo ekW evK okW cb s.cl :: heapW hb (s.room : Int) (s.nx : Int) s.hp :: tago tb s.tags s.seen s.many s.floor :: Mb.mail mb (mailU s.mail) :: F) w) (h : s.drops.length = 13) {e m : Nat} (he : e < 13) (hm : ∀ d ∈ s.drops, d ≤ m) (hm2 : m ≤ 1000000) : Calls Tryz.prog 34 #[.pointer (some ⟨p, 0, none⟩), .int .i64 (e : Int)] w fun r w' => r = .returned (.int .i64 (e : Int)) ∧ At w0 (raw p (nodeC (s.drop e) cb hb tb mb).toArray 96 :: mapo ekW evK okW cb s.cl :: heapW hb (s.room : Int) (s.nx : Int) s.hp :: tago tb s.tags s.seen s.many s.floor :: Mb.mail mb (mailU s.mail) :: F) w' := by
 obtain ⟨d, hd⟩ : ∃ d, s.drops[e]? = some d := ⟨_, List.getElem?_eq_getElem (by omega)⟩
 have hdm := hm d (List.mem_of_getElem? hd)
 have hw1 : IntKind.i64.wrap ((d : Int) + 1) = ((d + 1 : Nat) : Int) := by rw [IntKind.wrap_i64]; omega
 have hcell := Lib.hid (show (nodeC s cb hb tb mb)[7 + e]? = some (.int .i64 (d : Int)) by
  unfold nodeC
  rw [List.getElem?_append_right (by simp)]
  simp [dropsC, hd])
 have hset := Lib.hid (show (nodeC s cb hb tb mb).toArray.setIfInBounds (7 + e) (.int .i64 ((d + 1 : Nat) : Int)) = (nodeC (s.drop e) cb hb tb mb).toArray by
  apply Array.ext'
  rw [Array.toList_setIfInBounds]
  unfold nodeC NodeD.drop
  show List.set _ _ _ = _
  rw [List.set_append_right _ _ (by simp)]
  simp [dropsC, hd, List.getD_eq_getElem?_getD, List.map_set])
 have hlen := Lib.hid (show (nodeC s cb hb tb mb).length = 20 by simp [nodeC, drops_len, h])
 have he2 : (e : Int) < 13 := by omega
 clear h hm hm2 hd hdm
 go_enter Tryz.func34, Tryz.ntmps34
 go_wp2_with fail
 refine wpM_begin [10] ((At w0 (raw p (nodeC s cb hb tb mb).toArray 96 :: mapo ekW evK okW cb s.cl :: heapW hb (s.room : Int) (s.nx : Int) s.hp :: tago tb s.tags s.seen s.many s.floor :: Mb.mail mb (mailU s.mail) :: F))) [(0, 2), (1, 2), (2, 2), (3, 2), (4, 2), (5, 1), (6, 2), (7, 2), (8, 2), (9, 2), (10, 0)] rfl (by kernel_rfl) (by kernel_rfl) ((H.drew)) ?_
 intro ops hOps hS
 replace H := H.drew
 iterate 5 refine fm hOps ?_
 refine tm hOps hS (fun w hw => at_raw hw 0 rfl hcell.out) ?_
 iterate 4 refine fm hOps ?_
 refine wpM_next hOps rfl rfl ?_
 intro K hK
 refine wp_store_sl 3 _ _ rfl (off := 7 + e) (v := .int .i64 ((d + 1 : Nat) : Int)) rfl rfl (by kernel_rfl) rfl 0 H rfl (by rw [List.size_toArray, hlen.out]; omega) (fun w' H => ?_)
 rw [hset.out] at H
 refine hK _ _ (.inl (by decide)) ?_
 clear hK K
 simp only [nrm]
 refine wpM_end ?_
 clear hOps hS ops
 go_wp2
 go_ret
 exact ⟨rfl, H⟩
theorem ndrop_c (H : At w0 (nodeo p mb s :: F) w) (h : s.drops.length = 13) {e m : Nat} (he : e < 13) (hm : ∀ d ∈ s.drops, d ≤ m) (hm2 : m ≤ 1000000) : Calls Tryz.prog 34 #[.pointer (some ⟨p, 0, none⟩), .int .i64 (e : Int)] w fun r w' => r = .returned (.int .i64 (e : Int)) ∧ At w0 (nodeo p mb (s.drop e) :: F) w' := by
 obtain ⟨cb, hb, tb, H⟩ := node_open H
 exact (ndropO_c H h he hm hm2).mono fun _ _ h => ⟨h.1, node_shut h.2⟩
theorem lookW {F : List SP} {cb : Nat} {cl : List (Nat × Bytes)} {who : Nat} (H : At w0 (mapo ekW evK okW cb cl :: F) w) (hw : who < 65536) :
    (Instr.lookup 83 (.map (some cb)) (.int .u16 (who : Int)) true).run Tryz.prog w = .ok (.tuple #[.agg (v8 ((mlook cl who).getD (zs 32))).toArray, .bool (mlook cl who).isSome]) w :=
 run_look mkW under_clients zero_key H (x := who) hw true
theorem keyD_length {n m : Nat} (h : s.ok n m) (who : Nat) : ((mlook s.cl who).getD (zs 32)).length = 32 := by
 cases hx : mlook s.cl who with
 | none => exact zs_length 32
 | some k => exact h.keys _ (mlook_mem hx)
set_option maxRecDepth 10000 in
set_option maxHeartbeats 2000000 in
theorem nclient_c {n m : Nat} (H : At w0 (nodeo p mb s :: F) w) (hs : s.ok n m) {who : Nat} (hw : who < 65536) {key : Bytes} (hk : key.length = 32) :
    Calls Tryz.prog 17 #[.pointer (some ⟨p, 0, none⟩), .int .u16 (who : Int), .agg (v8 key).toArray] w fun e w' => e = .returned (.int .i64 ((s.client who key).2 : Int)) ∧ At w0 (nodeo p mb (s.client who key).1 :: F) w' := by
 obtain ⟨cb, hb, tb, H⟩ := node_open H
 obtain ⟨kk, hkk⟩ : ∃ kk, kk = (mlook s.cl who).getD (zs 32) := ⟨_, rfl⟩
 have hkl := Lib.hid (show kk.length = 32 by rw [hkk]; exact keyD_length hs who)
 have HKK := Lib.hid hkk.symm
 have HWH := Lib.hid hw
 have HK := Lib.hid hk
 clear hkk hw hk hs
 unfold NodeD.client
 cases hl : mlook s.cl who with
 | some k0 =>
  rw [if_neg (by simp)]
  have HTH := Lib.hid (show (mlook s.cl who).isSome = true by rw [hl]; rfl)
  clear hl
  go_enter Tryz.func17, Tryz.ntmps17
  go_wp2_with ((first | (with_reducible refine wpList_op rfl ?_) | (refine wpList_opif (by rfl) ?_)); intro _ hK; first
   | (refine dst_is 5 rfl ?_; refine wp_box_sl (v := .agg (v8 key).toArray) 41 _ rfl rfl H (fun X w' (H : At w0 (raw X (v8 key).toArray 41 :: _) w') _ => hK _ _ ?_))
   | (refine dst_is 13 rfl ?_; refine wp_get 83 _ rfl rfl (by kernel_rfl) (at_raw H 1 rfl (j := 3) rfl) (hK _ _ ?_))
   | (refine dst_is 15 rfl ?_; refine wp_run (exec_look_of rfl rfl rfl (v := .tuple #[.agg (v8 kk).toArray, .bool true]) ((lookW (H.pull 2 rfl) HWH.out).trans (by rw [HKK.out, HTH.out]))) (hK _ _ ?_))
   | (refine dst_is 7 rfl ?_; refine wp_alloc_sl 41 rfl info_keyt H (fun Y w' (H : At w0 (raw Y (v8 (zs 32)).toArray 41 :: _) w') _ => hK _ _ ?_))
   | (refine sto_is 7 rfl ?_; refine wp_sta 41 _ _ rfl (cs := kk) rfl rfl (by rw [hkl.out]; exact size_key) 0 H rfl (by rw [hkl.out, zs_length]) (fun w' (H : At w0 (raw Y (v8 kk).toArray 41 :: _) w') => hK _ _ ?_))
   | (refine dst_is 24 rfl ?_; refine wp_get 83 _ rfl rfl (by kernel_rfl) (at_raw H 2 rfl (j := 3) rfl) (hK _ _ ?_))
   | (refine dst_is 25 rfl ?_; refine wp_mlen rfl under_clients (H.pull 3 rfl) rfl (hK _ _ ?_)))
  refine wpM_begin [6] ((At w0 (raw Y (v8 kk).toArray 41 :: raw X (v8 key).toArray 41 :: raw p (nodeC s cb hb tb mb).toArray 96 :: mapo ekW evK okW cb s.cl :: heapW hb (s.room : Int) (s.nx : Int) s.hp :: tago tb s.tags s.seen s.many s.floor :: Mb.mail mb (mailU s.mail) :: F))) [(0, 2), (1, 2), (2, 2), (3, 1), (4, 2), (5, 1), (6, 0)] rfl (by kernel_rfl) (by kernel_rfl) ((H.drew)) ?_
  intro ops hOps hS
  replace H := H.drew
  iterate 3 refine fm hOps ?_
  refine tm hOps hS (fun w hw => at_raw hw 2 rfl (j := 3) rfl) ?_
  refine fm hOps ?_
  refine wpM_take hOps hS rfl (fun _ _ _ h => h) (yl_lda rfl 41 _ rfl rfl (by kernel_rfl) (by rw [HK.out]; exact size_key) (fun w hw => at_blk hw 1 rfl)) ?_
  simp only [nrm]
  refine wpM_next hOps rfl rfl ?_
  intro K hK
  refine wp_upd rfl mkW under_clients (H.pull 3 rfl) rfl rfl rfl (x := who) rfl HWH.out (v := key) rfl (fun w' H => ?_)
  refine hK _ _ (.inl (by decide)) ?_
  clear hK K
  simp only [nrm]
  refine wpM_end ?_
  clear hOps hS ops
  go_wp2
  go_ret
  exact ⟨rfl, node_shut (s := { s with cl := upd s.cl who key }) ((H.pull 3 rfl).maskR [true, true, false, false])⟩
 | none =>
  have HTH := Lib.hid (show (mlook s.cl who).isSome = false by rw [hl]; rfl)
  clear hl
  by_cases h16 : 16 ≤ s.cl.length
  · rw [if_pos ⟨rfl, h16⟩]
    have h16' : (16 : Int) ≤ (s.cl.length : Int) := by omega
    clear h16
    go_enter Tryz.func17, Tryz.ntmps17
    go_wp2_with ((first | (with_reducible refine wpList_op rfl ?_) | (refine wpList_opif (by rfl) ?_)); intro _ hK; first
     | (refine dst_is 5 rfl ?_; refine wp_box_sl (v := .agg (v8 key).toArray) 41 _ rfl rfl H (fun X w' (H : At w0 (raw X (v8 key).toArray 41 :: _) w') _ => hK _ _ ?_))
     | (refine dst_is 13 rfl ?_; refine wp_get 83 _ rfl rfl (by kernel_rfl) (at_raw H 1 rfl (j := 3) rfl) (hK _ _ ?_))
     | (refine dst_is 15 rfl ?_; refine wp_run (exec_look_of rfl rfl rfl (v := .tuple #[.agg (v8 kk).toArray, .bool false]) ((lookW (H.pull 2 rfl) HWH.out).trans (by rw [HKK.out, HTH.out]))) (hK _ _ ?_))
     | (refine dst_is 7 rfl ?_; refine wp_alloc_sl 41 rfl info_keyt H (fun Y w' (H : At w0 (raw Y (v8 (zs 32)).toArray 41 :: _) w') _ => hK _ _ ?_))
     | (refine sto_is 7 rfl ?_; refine wp_sta 41 _ _ rfl (cs := kk) rfl rfl (by rw [hkl.out]; exact size_key) 0 H rfl (by rw [hkl.out, zs_length]) (fun w' (H : At w0 (raw Y (v8 kk).toArray 41 :: _) w') => hK _ _ ?_))
     | (refine dst_is 24 rfl ?_; refine wp_get 83 _ rfl rfl (by kernel_rfl) (at_raw H 2 rfl (j := 3) rfl) (hK _ _ ?_))
     | (refine dst_is 25 rfl ?_; refine wp_mlen rfl under_clients (H.pull 3 rfl) rfl (hK _ _ ?_)))
    go_ret
    exact ⟨rfl, node_shut (H.maskR [false, false])⟩
  · rw [if_neg (fun h => h16 h.2)]
    have h16' : ¬ (16 : Int) ≤ (s.cl.length : Int) := by omega
    clear h16
    go_enter Tryz.func17, Tryz.ntmps17
    go_wp2_with ((first | (with_reducible refine wpList_op rfl ?_) | (refine wpList_opif (by rfl) ?_)); intro _ hK; first
     | (refine dst_is 5 rfl ?_; refine wp_box_sl (v := .agg (v8 key).toArray) 41 _ rfl rfl H (fun X w' (H : At w0 (raw X (v8 key).toArray 41 :: _) w') _ => hK _ _ ?_))
     | (refine dst_is 13 rfl ?_; refine wp_get 83 _ rfl rfl (by kernel_rfl) (at_raw H 1 rfl (j := 3) rfl) (hK _ _ ?_))
     | (refine dst_is 15 rfl ?_; refine wp_run (exec_look_of rfl rfl rfl (v := .tuple #[.agg (v8 kk).toArray, .bool false]) ((lookW (H.pull 2 rfl) HWH.out).trans (by rw [HKK.out, HTH.out]))) (hK _ _ ?_))
     | (refine dst_is 7 rfl ?_; refine wp_alloc_sl 41 rfl info_keyt H (fun Y w' (H : At w0 (raw Y (v8 (zs 32)).toArray 41 :: _) w') _ => hK _ _ ?_))
     | (refine sto_is 7 rfl ?_; refine wp_sta 41 _ _ rfl (cs := kk) rfl rfl (by rw [hkl.out]; exact size_key) 0 H rfl (by rw [hkl.out, zs_length]) (fun w' (H : At w0 (raw Y (v8 kk).toArray 41 :: _) w') => hK _ _ ?_))
     | (refine dst_is 24 rfl ?_; refine wp_get 83 _ rfl rfl (by kernel_rfl) (at_raw H 2 rfl (j := 3) rfl) (hK _ _ ?_))
     | (refine dst_is 25 rfl ?_; refine wp_mlen rfl under_clients (H.pull 3 rfl) rfl (hK _ _ ?_)))
    refine wpM_begin [6] ((At w0 (raw Y (v8 kk).toArray 41 :: raw X (v8 key).toArray 41 :: raw p (nodeC s cb hb tb mb).toArray 96 :: mapo ekW evK okW cb s.cl :: heapW hb (s.room : Int) (s.nx : Int) s.hp :: tago tb s.tags s.seen s.many s.floor :: Mb.mail mb (mailU s.mail) :: F))) [(0, 2), (1, 2), (2, 2), (3, 1), (4, 2), (5, 1), (6, 0)] rfl (by kernel_rfl) (by kernel_rfl) ((H.drew)) ?_
    intro ops hOps hS
    replace H := H.drew
    iterate 3 refine fm hOps ?_
    refine tm hOps hS (fun w hw => at_raw hw 2 rfl (j := 3) rfl) ?_
    refine fm hOps ?_
    refine wpM_take hOps hS rfl (fun _ _ _ h => h) (yl_lda rfl 41 _ rfl rfl (by kernel_rfl) (by rw [HK.out]; exact size_key) (fun w hw => at_blk hw 1 rfl)) ?_
    simp only [nrm]
    refine wpM_next hOps rfl rfl ?_
    intro K hK
    refine wp_upd rfl mkW under_clients (H.pull 3 rfl) rfl rfl rfl (x := who) rfl HWH.out (v := key) rfl (fun w' H => ?_)
    refine hK _ _ (.inl (by decide)) ?_
    clear hK K
    simp only [nrm]
    refine wpM_end ?_
    clear hOps hS ops
    go_wp2
    go_ret
    exact ⟨rfl, node_shut (s := { s with cl := upd s.cl who key }) ((H.pull 3 rfl).maskR [true, true, false, false])⟩
set_option maxRecDepth 10000 in
set_option maxHeartbeats 4000000 in
theorem nopen_c {n m : Nat} (H : At w0 (nodeo p mb s :: F) w) (hs : s.ok n m) {q : PktD} (qo : q.ok) {now : Nat} (hnow : now < 18446744073709551616) :
    Calls Tryz.prog 51 #[.pointer (some ⟨p, 0, none⟩), .agg q.cells.toArray, .int .u64 (now : Int)] w fun e w' => e = .returned (.tuple #[.agg (v8 ((mlook s.cl q.who).getD (zs 32))).toArray, .int .i64 (s.openE q now : Int)]) ∧ At w0 (nodeo p mb s :: F) w' := by
 obtain ⟨cb, hb, tb, H⟩ := node_open H
 obtain ⟨kk, hkk⟩ : ∃ kk, kk = (mlook s.cl q.who).getD (zs 32) := ⟨_, rfl⟩
 have hkl := Lib.hid (show kk.length = 32 by rw [hkk]; exact keyD_length hs q.who)
 have HKK := Lib.hid hkk.symm
 obtain ⟨th, hth⟩ : ∃ th, th = (mlook s.cl q.who).isSome := ⟨_, rfl⟩
 have HTH := Lib.hid hth.symm
 have QO := Lib.hid qo
 have HNOW := Lib.hid hnow
 have hoe : s.openE q now = if th = false then 10 else if now / 1000 < 4294967296 ∧ (q.epoch = now / 1000 ∨ q.epoch + 1 = now / 1000) then 0 else 11 := by
  unfold NodeD.openE
  rw [hth]
  cases mlook s.cl q.who <;> simp
 obtain ⟨E, hE⟩ : ∃ E, E = s.openE q now := ⟨_, rfl⟩
 rw [← hkk, ← hE]
 have HE := Lib.hid (hE.trans hoe)
 clear hkk hth qo hnow hs hoe hE
 go_enter Tryz.func51, Tryz.ntmps51
 go_wp2_with ((with_reducible refine wpList_op rfl ?_); intro _ hK; first
  | (refine dst_is 4 rfl ?_; refine wp_box_sl (v := .agg q.cells.toArray) 89 _ rfl rfl H (fun B w' (H : At w0 (raw B q.cells.toArray 89 :: _) w') _ => hK _ _ ?_))
  | (refine dst_is 6 rfl ?_; refine wp_alloc_sl 41 rfl info_keyt H (fun O w' (H : At w0 (raw O (v8 (zs 32)).toArray 41 :: _) w') _ => hK _ _ ?_)))
 refine wpS_begin [] (raw O (v8 (zs 32)).toArray 41 :: raw B q.cells.toArray 89 :: raw p (nodeC s cb hb tb mb).toArray 96 :: mapo ekW evK okW cb s.cl :: heapW hb (s.room : Int) (s.nx : Int) s.hp :: tago tb s.tags s.seen s.many s.floor :: Mb.mail mb (mailU s.mail) :: F) (.fr 0 (.fr 1 (.fr 2 (.tk 3 (.fr 4 (.tk 5 (.tk 6 (.fr 7 (.fr 8 (.fr 9 (.nx 10 (.nx 11 (.nx 12 .nil))))))))))))) rfl (by kernel_rfl) (by kernel_rfl) H ?_
 clear H
 intro ops hOps
 iterate 3 refine fs hOps ?_
 refine ts hOps (fun w hw => at_raw hw 2 rfl (j := 3) rfl) ?_
 refine fs hOps ?_
 refine ts hOps (fun w hw => at_raw hw 1 rfl (j := 0) rfl) ?_
 refine wpS_take hOps rfl (fun _ _ _ h => h) pk (GY.of_yields (yl (v := .tuple #[.agg (v8 kk).toArray, .bool th]) rfl (fun w hw => exec_look_of rfl rfl rfl ((lookW (hw.pull 3 rfl) QO.out.who).trans (by rw [HKK.out, HTH.out]))))) ?_
 simp only [nrm]
 iterate 3 refine fs hOps ?_
 refine wpS_next hOps rfl rfl ?_
 intro w H K hK
 refine wp_alloc_sl 41 rfl info_keyt H (fun Y w' H _ => ?_)
 refine hK _ _ _ (.inr (.inl ((Imp.refl _).more _))) H ?_
 clear hK K H
 try simp only [nrm]
 refine wpS_next hOps rfl rfl ?_
 intro w H K hK
 first
  | (refine wp_sta 41 _ _ rfl (b := Y) (cs := kk) rfl rfl (by rw [hkl.out]; exact size_key) 0 H rfl (by rw [hkl.out, zs_length]) (fun w' H => ?_); replace H : At w0 (raw Y (v8 kk).toArray 41 :: _) w' := H)
 refine hK _ _ _ (.inr (.inr pk)) H ?_
 clear hK K H
 try simp only [nrm]
 refine wpS_next hOps rfl rfl ?_
 intro w H K hK
 refine wp_run rfl ?_
 refine hK _ _ _ (.inr (.inl (Imp.refl _))) H ?_
 clear hK K H
 try simp only [nrm]
 refine wpS_end (fun w H => ?_)
 clear hOps ops
 cases th
 · obtain rfl : E = 10 := by rw [HE.out, if_pos rfl]
   go_wp2_with ((with_reducible refine wpList_op rfl ?_); intro _ hK; first
    | (refine dst_is 24 rfl ?_; refine wp_lda 41 _ rfl rfl (by kernel_rfl) (by rw [hkl.out]; exact size_key) 0 H rfl (hK _ _ ?_))
    | (refine sto_is 6 rfl ?_; refine wp_sta 41 _ _ rfl (cs := kk) rfl rfl (by rw [hkl.out]; exact size_key) 1 H rfl (by rw [hkl.out, zs_length]) (fun w' H => hK _ _ ?_)))
   exact bodyPost_ret (v := .tuple #[.agg (v8 kk).toArray, .int .i64 10]) (results_row_tmp rfl _ rfl (at_blk H 1 rfl) (by kernel_rfl) (by rw [v8_length, hkl.out]; exact size_key) rfl) rfl ⟨rfl, node_shut (H.maskR [false, false, false])⟩
 · replace HE := Lib.hid (HE.out.trans (if_neg (by simp)))
   go_wp2_with fail
   refine (epoch_c HNOW.out _).mono ?_; rintro e' w' ⟨rfl, rfl⟩
   by_cases h1 : now / 1000 < 4294967296
   · have hlow : low32 (now / 1000) = now / 1000 := if_pos h1
     obtain ⟨d, hd⟩ : ∃ d, d = now / 1000 := ⟨_, rfl⟩
     rw [hlow, decide_eq_true h1, ← hd]
     replace HE := Lib.hid (show E = if d < 4294967296 ∧ (q.epoch = d ∨ q.epoch + 1 = d) then 0 else 11 by rw [hd]; exact HE.out)
     rw [← hd] at h1
     by_cases h2 : q.epoch = d
     · obtain rfl : E = 0 := HE.out.trans (if_pos ⟨h1, .inl h2⟩)
       clear h1 hlow hd
       go_wp2_with ((refine wpList_opif (by rfl) ?_); intro _ hK; (refine dst_is 34 rfl ?_; refine wp_get 36 _ rfl rfl (by kernel_rfl) (at_raw H 2 rfl (j := 1) rfl) (hK _ _ (Stop.go ?_))))
       refine Stop.un ?_
       go_wp2_with ((with_reducible refine wpList_op rfl ?_); intro _ hK; first
        | (refine dst_is 50 rfl ?_; refine wp_lda 41 _ rfl rfl (by kernel_rfl) (by rw [hkl.out]; exact size_key) 0 H rfl (hK _ _ ?_))
        | (refine sto_is 6 rfl ?_; refine wp_sta 41 _ _ rfl (cs := kk) rfl rfl (by rw [hkl.out]; exact size_key) 1 H rfl (by rw [hkl.out, zs_length]) (fun w' H => hK _ _ ?_)))
       exact bodyPost_ret (v := .tuple #[.agg (v8 kk).toArray, .int .i64 0]) (results_row_tmp rfl _ rfl (at_blk H 1 rfl) (by kernel_rfl) (by rw [v8_length, hkl.out]; exact size_key) rfl) rfl ⟨rfl, node_shut (H.maskR [false, false, false])⟩
     · by_cases h3 : d = 0
       · obtain rfl : E = 11 := HE.out.trans (if_neg (fun h => h.2.elim h2 (fun h => by omega)))
         subst h3
         clear h1 hlow hd
         go_wp2_with ((refine wpList_opif (by rfl) ?_); intro _ hK; (refine dst_is 34 rfl ?_; refine wp_get 36 _ rfl rfl (by kernel_rfl) (at_raw H 2 rfl (j := 1) rfl) (hK _ _ (Stop.go ?_))))
         refine Stop.un ?_
         go_wp2_with ((with_reducible refine wpList_op rfl ?_); intro _ hK; first
          | (refine dst_is 49 rfl ?_; refine wp_lda 41 _ rfl rfl (by kernel_rfl) (by rw [hkl.out]; exact size_key) 0 H rfl (hK _ _ ?_))
          | (refine sto_is 6 rfl ?_; refine wp_sta 41 _ _ rfl (cs := kk) rfl rfl (by rw [hkl.out]; exact size_key) 1 H rfl (by rw [hkl.out, zs_length]) (fun w' H => hK _ _ ?_)))
         exact bodyPost_ret (v := .tuple #[.agg (v8 kk).toArray, .int .i64 11]) (results_row_tmp rfl _ rfl (at_blk H 1 rfl) (by kernel_rfl) (by rw [v8_length, hkl.out]; exact size_key) rfl) rfl ⟨rfl, node_shut (H.maskR [false, false, false])⟩
       · have e1 : IntKind.u32.wrap ((d : Int) - 1) = ((d - 1 : Nat) : Int) := by rw [IntKind.wrap_u32]; omega
         by_cases h4 : q.epoch + 1 = d
         · obtain rfl : E = 0 := HE.out.trans (if_pos ⟨h1, .inr h4⟩)
           have h5 : q.epoch = d - 1 := by omega
           obtain ⟨x, hx⟩ : ∃ x, x = d - 1 := ⟨_, rfl⟩
           rw [← hx] at e1 h5
           have b1 : ((d : Int) == 0) = false := by simp; omega
           have b2 : ((q.epoch : Int) != (d : Int)) = true := by simp; omega
           have b3 : ((q.epoch : Int) != (x : Int)) = false := by simp; omega
           clear h1 hlow hd h4 hx h5 h2 h3
           go_wp2_with ((refine wpList_opif (by rfl) ?_); intro _ hK; (refine dst_is 34 rfl ?_; refine wp_get 36 _ rfl rfl (by kernel_rfl) (at_raw H 2 rfl (j := 1) rfl) (hK _ _ (Stop.go ?_))))
           refine Stop.un ?_
           go_wp2_with ((refine wpList_opif (by rfl) ?_); intro _ hK; (refine dst_is 42 rfl ?_; refine wp_get 36 _ rfl rfl (by kernel_rfl) (at_raw H 2 rfl (j := 1) rfl) (hK _ _ (Stop.go ?_))))
           refine Stop.un ?_
           go_wp2_with ((with_reducible refine wpList_op rfl ?_); intro _ hK; first
            | (refine dst_is 50 rfl ?_; refine wp_lda 41 _ rfl rfl (by kernel_rfl) (by rw [hkl.out]; exact size_key) 0 H rfl (hK _ _ ?_))
            | (refine sto_is 6 rfl ?_; refine wp_sta 41 _ _ rfl (cs := kk) rfl rfl (by rw [hkl.out]; exact size_key) 1 H rfl (by rw [hkl.out, zs_length]) (fun w' H => hK _ _ ?_)))
           exact bodyPost_ret (v := .tuple #[.agg (v8 kk).toArray, .int .i64 0]) (results_row_tmp rfl _ rfl (at_blk H 1 rfl) (by kernel_rfl) (by rw [v8_length, hkl.out]; exact size_key) rfl) rfl ⟨rfl, node_shut (H.maskR [false, false, false])⟩
         · obtain rfl : E = 11 := HE.out.trans (if_neg (fun h => h.2.elim h2 h4))
           have h5 : ¬ q.epoch = d - 1 := by omega
           obtain ⟨x, hx⟩ : ∃ x, x = d - 1 := ⟨_, rfl⟩
           rw [← hx] at e1 h5
           have b1 : ((d : Int) == 0) = false := by simp; omega
           have b2 : ((q.epoch : Int) != (d : Int)) = true := by simp; omega
           have b3 : ((q.epoch : Int) != (x : Int)) = true := by simp; omega
           clear h1 hlow hd h4 hx h5 h2 h3
           go_wp2_with ((refine wpList_opif (by rfl) ?_); intro _ hK; (refine dst_is 34 rfl ?_; refine wp_get 36 _ rfl rfl (by kernel_rfl) (at_raw H 2 rfl (j := 1) rfl) (hK _ _ (Stop.go ?_))))
           refine Stop.un ?_
           go_wp2_with ((refine wpList_opif (by rfl) ?_); intro _ hK; (refine dst_is 42 rfl ?_; refine wp_get 36 _ rfl rfl (by kernel_rfl) (at_raw H 2 rfl (j := 1) rfl) (hK _ _ (Stop.go ?_))))
           refine Stop.un ?_
           go_wp2_with ((with_reducible refine wpList_op rfl ?_); intro _ hK; first
            | (refine dst_is 49 rfl ?_; refine wp_lda 41 _ rfl rfl (by kernel_rfl) (by rw [hkl.out]; exact size_key) 0 H rfl (hK _ _ ?_))
            | (refine sto_is 6 rfl ?_; refine wp_sta 41 _ _ rfl (cs := kk) rfl rfl (by rw [hkl.out]; exact size_key) 1 H rfl (by rw [hkl.out, zs_length]) (fun w' H => hK _ _ ?_)))
           exact bodyPost_ret (v := .tuple #[.agg (v8 kk).toArray, .int .i64 11]) (results_row_tmp rfl _ rfl (at_blk H 1 rfl) (by kernel_rfl) (by rw [v8_length, hkl.out]; exact size_key) rfl) rfl ⟨rfl, node_shut (H.maskR [false, false, false])⟩
   · obtain rfl : E = 11 := HE.out.trans (if_neg (fun h => h1 h.1))
     rw [decide_eq_false h1]
     obtain ⟨d, hd⟩ : ∃ d, d = low32 (now / 1000) := ⟨_, rfl⟩
     rw [← hd]
     clear h1 hd
     go_wp2_with ((with_reducible refine wpList_op rfl ?_); intro _ hK; first
      | (refine dst_is 49 rfl ?_; refine wp_lda 41 _ rfl rfl (by kernel_rfl) (by rw [hkl.out]; exact size_key) 0 H rfl (hK _ _ ?_))
      | (refine sto_is 6 rfl ?_; refine wp_sta 41 _ _ rfl (cs := kk) rfl rfl (by rw [hkl.out]; exact size_key) 1 H rfl (by rw [hkl.out, zs_length]) (fun w' H => hK _ _ ?_)))
     exact bodyPost_ret (v := .tuple #[.agg (v8 kk).toArray, .int .i64 11]) (results_row_tmp rfl _ rfl (at_blk H 1 rfl) (by kernel_rfl) (by rw [v8_length, hkl.out]; exact size_key) rfl) rfl ⟨rfl, node_shut (H.maskR [false, false, false])⟩
set_option maxRecDepth 10000 in
set_option maxHeartbeats 4000000 in
theorem nfresh_c (H : At w0 (nodeo p mb s :: F) w) {ep : Nat} (he : ep < 4294967296) {tag : Bytes} (ht : tag.length = 16) :
    Calls Tryz.prog 56 #[.pointer (some ⟨p, 0, none⟩), .int .u32 (ep : Int), .agg (v8 tag).toArray] w fun e w' => e = .returned (.int .i64 (s.freshE (ep, tag) : Int)) ∧ At w0 (nodeo p mb s :: F) w' := by
 obtain ⟨cb, hb, tb, H⟩ := node_open H
 have HEP := Lib.hid he
 have HT := Lib.hid ht
 obtain ⟨E, hE⟩ : ∃ E, E = s.freshE (ep, tag) := ⟨_, rfl⟩
 rw [← hE]
 unfold NodeD.freshE at hE
 clear he ht
 by_cases h1 : ep < s.floor
 · obtain rfl : E = 11 := hE.trans (if_pos h1)
   clear hE
   go_enter Tryz.func56, Tryz.ntmps56
   go_wp2_with ((with_reducible refine wpList_op rfl ?_); intro _ hK; first
    | (refine dst_is 5 rfl ?_; refine wp_box_sl (v := .agg (v8 tag).toArray) 104 _ rfl rfl H (fun X w' (H : At w0 (raw X (v8 tag).toArray 104 :: _) w') _ => hK _ _ ?_))
    | (refine dst_is 12 rfl ?_; refine wp_get 92 _ rfl rfl (by kernel_rfl) (at_raw H 1 rfl (j := 5) rfl) (hK _ _ (Stop.go ?_))))
   refine Stop.un ?_
   go_wp2_with fail
   refine (tfloor_c (H.pull 4 rfl)).mono ?_; rintro e w' ⟨rfl, rfl⟩
   go_wp2_with fail
   go_ret
   exact ⟨rfl, node_shut H.tail⟩
 · rw [if_neg h1] at hE
   cases hbv : (mlook s.seen (ep, tag)).getD false with
   | true =>
    obtain rfl : E = 7 := hE.trans (if_pos hbv)
    have HB := Lib.hid hbv
    clear hE hbv
    go_enter Tryz.func56, Tryz.ntmps56
    go_wp2_with ((with_reducible refine wpList_op rfl ?_); intro _ hK; first
     | (refine dst_is 5 rfl ?_; refine wp_box_sl (v := .agg (v8 tag).toArray) 104 _ rfl rfl H (fun X w' (H : At w0 (raw X (v8 tag).toArray 104 :: _) w') _ => hK _ _ ?_))
     | (refine dst_is 12 rfl ?_; refine wp_get 92 _ rfl rfl (by kernel_rfl) (at_raw H 1 rfl (j := 5) rfl) (hK _ _ (Stop.go ?_))))
    refine Stop.un ?_
    go_wp2_with fail
    refine (tfloor_c (H.pull 4 rfl)).mono ?_; rintro e w' ⟨rfl, rfl⟩
    go_wp2_with fail
    refine wpM_begin [] ((At w0 (raw X (v8 tag).toArray 104 :: raw p (nodeC s cb hb tb mb).toArray 96 :: mapo ekW evK okW cb s.cl :: heapW hb (s.room : Int) (s.nx : Int) s.hp :: tago tb s.tags s.seen s.many s.floor :: Mb.mail mb (mailU s.mail) :: F))) [(0, 2), (1, 2), (2, 2), (3, 1), (4, 2), (5, 1), (6, 0), (7, 0)] rfl (by kernel_rfl) (by kernel_rfl) ((H.drew)) ?_
    intro ops hOps hS
    replace H := H.drew
    iterate 3 refine fm hOps ?_
    refine tm hOps hS (fun w hw => at_raw hw 1 rfl (j := 5) rfl) ?_
    refine fm hOps ?_
    refine wpM_take hOps hS rfl (fun _ _ _ h => h) (yl_lda rfl 104 _ rfl rfl (by kernel_rfl) (by rw [HT.out]; exact size_tagt) (fun w hw => at_blk hw 0 rfl)) ?_
    simp only [nrm]
    refine wpM_next hOps rfl rfl ?_
    intro K hK
    refine wp_call _ _ _ rfl Tryz.func97 rfl (by kernel_rfl) ?_
    simp only [List.map_toArray, List.map_cons, List.map_nil, Act.eval, Array.getD_eq_getD_getElem?, List.getElem?_toArray, List.getElem?_cons_zero, List.getElem?_cons_succ, Option.getD_some]
    refine (thas_c (H.pull 4 rfl) HEP.out HT.out).mono ?_; rintro e w' ⟨rfl, H⟩
    rw [HB.out]
    replace H : At w0 (raw X (v8 tag).toArray 104 :: raw p (nodeC s cb hb tb mb).toArray 96 :: mapo ekW evK okW cb s.cl :: heapW hb (s.room : Int) (s.nx : Int) s.hp :: tago tb s.tags s.seen s.many s.floor :: Mb.mail mb (mailU s.mail) :: F) w' := (((H.pull 4 rfl).pull 4 rfl).pull 4 rfl).pull 4 rfl
    have hS := (H)
    refine hK _ _ (.inr hS) ?_
    clear hK K
    simp only [nrm]
    refine wpM_next hOps rfl rfl ?_
    intro K hK
    refine wp_run rfl ?_
    have hS := (hS)
    refine hK _ _ (.inr hS) ?_
    clear hK K
    simp only [nrm]
    refine wpM_end ?_
    clear hOps hS ops
    go_wp2_with fail
    go_ret
    exact ⟨rfl, node_shut H.tail⟩
   | false =>
    rw [if_neg (by rw [hbv]; simp)] at hE
    have HB := Lib.hid hbv
    clear hbv
    obtain ⟨c, hc⟩ : ∃ c : Nat, c = (mlook s.many ep).getD 0 := ⟨_, rfl⟩
    have HC := Lib.hid hc
    by_cases h2 : s.room ≤ s.hp.length
    · obtain rfl : E = 8 := hE.trans (if_pos (.inl h2))
      clear hE hc
      have b1 : decide (s.room ≤ s.hp.length) = true := decide_eq_true h2
      go_enter Tryz.func56, Tryz.ntmps56
      go_wp2_with ((with_reducible refine wpList_op rfl ?_); intro _ hK; first
       | (refine dst_is 5 rfl ?_; refine wp_box_sl (v := .agg (v8 tag).toArray) 104 _ rfl rfl H (fun X w' (H : At w0 (raw X (v8 tag).toArray 104 :: _) w') _ => hK _ _ ?_))
       | (refine dst_is 12 rfl ?_; refine wp_get 92 _ rfl rfl (by kernel_rfl) (at_raw H 1 rfl (j := 5) rfl) (hK _ _ (Stop.go ?_))))
      refine Stop.un ?_
      go_wp2_with fail
      refine (tfloor_c (H.pull 4 rfl)).mono ?_; rintro e w' ⟨rfl, rfl⟩
      go_wp2_with fail
      refine wpM_begin [] ((At w0 (raw X (v8 tag).toArray 104 :: raw p (nodeC s cb hb tb mb).toArray 96 :: mapo ekW evK okW cb s.cl :: heapW hb (s.room : Int) (s.nx : Int) s.hp :: tago tb s.tags s.seen s.many s.floor :: Mb.mail mb (mailU s.mail) :: F))) [(0, 2), (1, 2), (2, 2), (3, 1), (4, 2), (5, 1), (6, 0), (7, 0)] rfl (by kernel_rfl) (by kernel_rfl) ((H.drew)) ?_
      intro ops hOps hS
      replace H := H.drew
      iterate 3 refine fm hOps ?_
      refine tm hOps hS (fun w hw => at_raw hw 1 rfl (j := 5) rfl) ?_
      refine fm hOps ?_
      refine wpM_take hOps hS rfl (fun _ _ _ h => h) (yl_lda rfl 104 _ rfl rfl (by kernel_rfl) (by rw [HT.out]; exact size_tagt) (fun w hw => at_blk hw 0 rfl)) ?_
      simp only [nrm]
      refine wpM_next hOps rfl rfl ?_
      intro K hK
      refine wp_call _ _ _ rfl Tryz.func97 rfl (by kernel_rfl) ?_
      simp only [List.map_toArray, List.map_cons, List.map_nil, Act.eval, Array.getD_eq_getD_getElem?, List.getElem?_toArray, List.getElem?_cons_zero, List.getElem?_cons_succ, Option.getD_some]
      refine (thas_c (H.pull 4 rfl) HEP.out HT.out).mono ?_; rintro e w' ⟨rfl, H⟩
      rw [HB.out]
      replace H : At w0 (raw X (v8 tag).toArray 104 :: raw p (nodeC s cb hb tb mb).toArray 96 :: mapo ekW evK okW cb s.cl :: heapW hb (s.room : Int) (s.nx : Int) s.hp :: tago tb s.tags s.seen s.many s.floor :: Mb.mail mb (mailU s.mail) :: F) w' := (((H.pull 4 rfl).pull 4 rfl).pull 4 rfl).pull 4 rfl
      have hS := (H)
      refine hK _ _ (.inr hS) ?_
      clear hK K
      simp only [nrm]
      refine wpM_next hOps rfl rfl ?_
      intro K hK
      refine wp_run rfl ?_
      have hS := (hS)
      refine hK _ _ (.inr hS) ?_
      clear hK K
      simp only [nrm]
      refine wpM_end ?_
      clear hOps hS ops
      go_wp2_with fail
      refine wpS_begin [] (raw X (v8 tag).toArray 104 :: raw p (nodeC s cb hb tb mb).toArray 96 :: mapo ekW evK okW cb s.cl :: heapW hb (s.room : Int) (s.nx : Int) s.hp :: tago tb s.tags s.seen s.many s.floor :: Mb.mail mb (mailU s.mail) :: F) (.fr 0 (.fr 1 (.fr 2 (.tk 3 (.fr 5 (.fr 6 (.fr 7 (.tk 8 (.nx 4 (.fr 9 (.fr 10 (.fr 11 (.fr 12 (.fr 13 (.fr 14 (.fr 15 (.fr 16 (.fr 17 (.fr 18 (.fr 19 (.fr 20 (.fr 21 (.fr 22 (.nx 23 .nil)))))))))))))))))))))))) rfl (by kernel_rfl) (by kernel_rfl) H ?_
      clear H
      intro ops hOps
      iterate 3 refine fs hOps ?_
      refine ts hOps (fun w hw => at_raw hw 1 rfl (j := 4) rfl) ?_
      iterate 3 refine fs hOps ?_
      refine ts hOps (fun w hw => at_raw hw 1 rfl (j := 1) rfl) ?_
      refine wpS_next hOps rfl rfl ?_
      intro w H K hK
      refine wp_call _ _ _ rfl Tryz.func46 rfl (by kernel_rfl) ?_
      simp only [List.map_toArray, List.map_cons, List.map_nil, nrm]
      refine (lenW_c (H.pull 3 rfl)).mono ?_; rintro e w' ⟨rfl, rfl⟩
      refine hK _ _ _ (.inr (.inr pk)) H ?_
      clear hK K H
      try simp only [nrm]
      iterate 2 refine fs hOps ?_
      iterate 11 refine fn hOps ?_
      refine fs hOps ?_
      refine wpS_next hOps rfl rfl ?_
      intro w H K hK
      refine wp_run rfl ?_
      refine hK _ _ _ (.inr (.inl (Imp.refl _))) H ?_
      clear hK K H
      try simp only [nrm]
      refine wpS_end (fun w H => ?_)
      clear hOps ops
      go_wp2_with fail
      go_ret
      exact ⟨rfl, node_shut H.tail⟩
    · have b1 : decide (s.room ≤ s.hp.length) = false := decide_eq_false h2
      have he8 : E = if s.tags ≤ c then 8 else 0 := by
       rw [hE, hc]
       by_cases h : s.tags ≤ (mlook s.many ep).getD 0
       · rw [if_pos (.inr h), if_pos h]
       · rw [if_neg (fun x => x.elim h2 h), if_neg h]
      clear hE hc
      go_enter Tryz.func56, Tryz.ntmps56
      go_wp2_with ((with_reducible refine wpList_op rfl ?_); intro _ hK; first
       | (refine dst_is 5 rfl ?_; refine wp_box_sl (v := .agg (v8 tag).toArray) 104 _ rfl rfl H (fun X w' (H : At w0 (raw X (v8 tag).toArray 104 :: _) w') _ => hK _ _ ?_))
       | (refine dst_is 12 rfl ?_; refine wp_get 92 _ rfl rfl (by kernel_rfl) (at_raw H 1 rfl (j := 5) rfl) (hK _ _ (Stop.go ?_))))
      refine Stop.un ?_
      go_wp2_with fail
      refine (tfloor_c (H.pull 4 rfl)).mono ?_; rintro e w' ⟨rfl, rfl⟩
      go_wp2_with fail
      refine wpM_begin [] ((At w0 (raw X (v8 tag).toArray 104 :: raw p (nodeC s cb hb tb mb).toArray 96 :: mapo ekW evK okW cb s.cl :: heapW hb (s.room : Int) (s.nx : Int) s.hp :: tago tb s.tags s.seen s.many s.floor :: Mb.mail mb (mailU s.mail) :: F))) [(0, 2), (1, 2), (2, 2), (3, 1), (4, 2), (5, 1), (6, 0), (7, 0)] rfl (by kernel_rfl) (by kernel_rfl) ((H.drew)) ?_
      intro ops hOps hS
      replace H := H.drew
      iterate 3 refine fm hOps ?_
      refine tm hOps hS (fun w hw => at_raw hw 1 rfl (j := 5) rfl) ?_
      refine fm hOps ?_
      refine wpM_take hOps hS rfl (fun _ _ _ h => h) (yl_lda rfl 104 _ rfl rfl (by kernel_rfl) (by rw [HT.out]; exact size_tagt) (fun w hw => at_blk hw 0 rfl)) ?_
      simp only [nrm]
      refine wpM_next hOps rfl rfl ?_
      intro K hK
      refine wp_call _ _ _ rfl Tryz.func97 rfl (by kernel_rfl) ?_
      simp only [List.map_toArray, List.map_cons, List.map_nil, Act.eval, Array.getD_eq_getD_getElem?, List.getElem?_toArray, List.getElem?_cons_zero, List.getElem?_cons_succ, Option.getD_some]
      refine (thas_c (H.pull 4 rfl) HEP.out HT.out).mono ?_; rintro e w' ⟨rfl, H⟩
      rw [HB.out]
      replace H : At w0 (raw X (v8 tag).toArray 104 :: raw p (nodeC s cb hb tb mb).toArray 96 :: mapo ekW evK okW cb s.cl :: heapW hb (s.room : Int) (s.nx : Int) s.hp :: tago tb s.tags s.seen s.many s.floor :: Mb.mail mb (mailU s.mail) :: F) w' := (((H.pull 4 rfl).pull 4 rfl).pull 4 rfl).pull 4 rfl
      have hS := (H)
      refine hK _ _ (.inr hS) ?_
      clear hK K
      simp only [nrm]
      refine wpM_next hOps rfl rfl ?_
      intro K hK
      refine wp_run rfl ?_
      have hS := (hS)
      refine hK _ _ (.inr hS) ?_
      clear hK K
      simp only [nrm]
      refine wpM_end ?_
      clear hOps hS ops
      go_wp2_with fail
      refine wpS_begin [] (raw X (v8 tag).toArray 104 :: raw p (nodeC s cb hb tb mb).toArray 96 :: mapo ekW evK okW cb s.cl :: heapW hb (s.room : Int) (s.nx : Int) s.hp :: tago tb s.tags s.seen s.many s.floor :: Mb.mail mb (mailU s.mail) :: F) (.fr 0 (.fr 1 (.fr 2 (.tk 3 (.fr 5 (.fr 6 (.fr 7 (.tk 8 (.nx 4 (.fr 9 (.fr 10 (.fr 11 (.fr 12 (.fr 13 (.tk 14 (.fr 15 (.fr 17 (.fr 18 (.fr 19 (.tk 20 (.nx 16 (.fr 21 (.fr 22 (.nx 23 .nil)))))))))))))))))))))))) rfl (by kernel_rfl) (by kernel_rfl) H ?_
      clear H
      intro ops hOps
      iterate 3 refine fs hOps ?_
      refine ts hOps (fun w hw => at_raw hw 1 rfl (j := 4) rfl) ?_
      iterate 3 refine fs hOps ?_
      refine ts hOps (fun w hw => at_raw hw 1 rfl (j := 1) rfl) ?_
      refine wpS_next hOps rfl rfl ?_
      intro w H K hK
      refine wp_call _ _ _ rfl Tryz.func46 rfl (by kernel_rfl) ?_
      simp only [List.map_toArray, List.map_cons, List.map_nil, nrm]
      refine (lenW_c (H.pull 3 rfl)).mono ?_; rintro e w' ⟨rfl, rfl⟩
      refine hK _ _ _ (.inr (.inr pk)) H ?_
      clear hK K H
      try simp only [nrm]
      iterate 5 refine fs hOps ?_
      refine ts hOps (fun w hw => at_raw hw 1 rfl (j := 5) rfl) ?_
      iterate 4 refine fs hOps ?_
      refine ts hOps (fun w hw => at_raw hw 1 rfl (j := 2) rfl) ?_
      refine wpS_next hOps rfl rfl ?_
      intro w H K hK
      refine wp_call _ _ _ rfl Tryz.func98 rfl (by kernel_rfl) ?_
      simp only [List.map_toArray, List.map_cons, List.map_nil, nrm]
      refine (tlen_c (H.pull 4 rfl) HEP.out).mono ?_; rintro e w' ⟨rfl, rfl⟩
      rw [← HC.out]
      refine hK _ _ _ (.inr (.inr pk)) H ?_
      clear hK K H
      try simp only [nrm]
      iterate 2 refine fs hOps ?_
      refine wpS_next hOps rfl rfl ?_
      intro w H K hK
      refine wp_run rfl ?_
      refine hK _ _ _ (.inr (.inl (Imp.refl _))) H ?_
      clear hK K H
      try simp only [nrm]
      refine wpS_end (fun w H => ?_)
      clear hOps ops
      by_cases h3 : s.tags ≤ c
      · obtain rfl : E = 8 := he8.trans (if_pos h3)
        go_wp2_with fail
        go_ret
        exact ⟨rfl, node_shut H.tail⟩
      · obtain rfl : E = 0 := he8.trans (if_neg h3)
        go_wp2_with fail
        go_ret
        exact ⟨rfl, node_shut H.tail⟩
set_option maxRecDepth 10000 in
set_option maxHeartbeats 4000000 in
theorem nnew_c (H : At w0 F w) {addr : Nat} (ha : addr < 65536) (room tags boxes : Int) :
    Calls Tryz.prog 12 #[.int .u16 (addr : Int), .int .i64 room, .int .i64 tags, .int .i64 boxes] w fun e w' => ∃ p mb : Nat, e = .returned (.pointer (some ⟨p, 0, none⟩)) ∧ At w0 (nodeo p mb (NodeD.fresh addr room tags boxes) :: F) w' := by
 obtain ⟨r1, hr1⟩ : ∃ r1 : Int, r1 = max room 1 := ⟨_, rfl⟩
 obtain ⟨r, hr⟩ : ∃ r : Nat, r = (min (max room 1) 64).toNat := ⟨_, rfl⟩
 obtain ⟨t1, ht1⟩ : ∃ t1 : Int, t1 = max tags 1 := ⟨_, rfl⟩
 obtain ⟨t, ht⟩ : ∃ t : Nat, t = (min (max tags 1) 256).toNat := ⟨_, rfl⟩
 have e1 : (if room < 1 then 1 else room) = r1 := by rw [hr1]; split <;> omega
 have e2 : (if 64 < r1 then 64 else r1) = (r : Int) := by rw [hr, hr1]; split <;> omega
 have e3 : (if tags < 1 then 1 else tags) = t1 := by rw [ht1]; split <;> omega
 have e4 : (if 256 < t1 then 256 else t1) = (t : Int) := by rw [ht, ht1]; split <;> omega
 have hmr : max (r : Int) 1 = (r : Int) := by omega
 have hmt : (1 : Int) ≤ (t : Int) := by omega
 have HMR := Lib.hid hmr
 have HMT := Lib.hid hmt
 have hfr := Lib.hid (show NodeD.fresh addr room tags boxes = ⟨addr, r, t, [], [], 0, [], [], 0, List.replicate (min (max boxes 0) 64).toNat [], List.replicate 13 0⟩ by rw [hr, ht]; rfl)
 obtain ⟨D, hD⟩ : ∃ D, D = NodeD.fresh addr room tags boxes := ⟨_, rfl⟩
 rw [← hD]
 have HD := Lib.hid (hD.trans hfr.out)
 clear hr1 hr ht1 ht hmr hmt ha hD hfr
 go_enter Tryz.func12, Tryz.ntmps12
 go_wp2_with ((with_reducible refine wpList_op rfl ?_); intro _ hK; first
  | (refine dst_is 18 rfl ?_; refine wp_mkmap (ek := ekW) (ev := evK) (ok := okW) rfl H (fun cb w' H => hK _ _ ?_)))
 refine (newW_c H _).mono ?_; rintro e' w' ⟨hb, rfl, H⟩
 rw [HMR.out] at H
 go_wp2_with fail
 refine (tnew_c H _ HMT.out).mono ?_; rintro e' w' ⟨tb, rfl, H⟩
 go_wp2_with fail
 refine (Mb.new_c H _).mono ?_; rintro e' w' ⟨mb, rfl, H⟩
 have hml : Mb.newL boxes = mailU (List.replicate (min (max boxes 0) 64).toNat []) := by
  unfold Mb.newL mailU
  rw [List.map_replicate]
  congr 1
  omega
 rw [hml] at H
 have hcells : (nodeC D cb hb tb mb).toArray = #[.int .u16 (addr : Int), .int .i64 (r : Int), .int .i64 (t : Int), .map (some cb), .pointer (some ⟨hb, 0, none⟩), .pointer (some ⟨tb, 0, none⟩), .pointer (some ⟨mb, 0, none⟩), .int .i64 0, .int .i64 0, .int .i64 0, .int .i64 0, .int .i64 0, .int .i64 0, .int .i64 0, .int .i64 0, .int .i64 0, .int .i64 0, .int .i64 0, .int .i64 0, .int .i64 0] := by rw [HD.out]; rfl
 have HC := Lib.hid hcells
 clear hml hcells
 go_wp2_with ((with_reducible refine wpList_op rfl ?_); intro _ hK; first
  | (refine dst_is 26 rfl ?_; refine wp_box_sl (v := .agg (nodeC D cb hb tb mb).toArray) 96 _ rfl (by rw [HC.out]; rfl) H (fun p w' (H : At w0 (raw p (nodeC D cb hb tb mb).toArray 96 :: _) w') _ => hK _ _ ?_)))
 go_ret
 refine ⟨p, mb, rfl, node_shut (cb := cb) (hb := hb) (tb := tb) ?_⟩
 rw [HD.out] at H ⊢
 rw [Int.toNat_natCast] at H
 exact ((((H.pull 1 rfl).pull 2 rfl).pull 3 rfl).pull 4 rfl).pull 4 rfl
end
end Go.Proofs.YtmflbekabkainaaGreatDoor
