import Derived.Test.YtmflbekabkainaaGreatDoorQNode
import Derived.Test.YtmflbekabkainaaGreatDoorQPeel
import Derived.Test.YtmflbekabkainaaGreatDoorQOnionB
import Derived.Test.YtmflbekabkainaaGreatDoorQHgD
set_option linter.unusedVariables false
set_option linter.unusedSimpArgs false
namespace Go.Proofs.YtmflbekabkainaaGreatDoor
open Go.RowKit Go.Hg
theorem openE_zero {s : NodeD} {q : PktD} {now : Nat} (h : s.openE q now = 0) : (mlook s.cl q.who).getD (zs 32) = s.keyOf q ∧ mlook s.cl q.who ≠ none := by
 unfold NodeD.openE at h
 unfold NodeD.keyOf
 cases hx : mlook s.cl q.who with
 | none => rw [hx] at h; simp at h
 | some k => exact ⟨rfl, by simp⟩
noncomputable def took (s : NodeD) (b : Bytes) (now : Nat) : NodeD := if s.takeE b now = 0 then s.take b now else s
theorem takeN_eq (s : NodeD) (b : Bytes) (now : Nat) : s.take b now = if s.takeE b now = 0 then took s b now else (took s b now).drop (s.takeE b now) := by
 unfold took
 by_cases h : s.takeE b now = 0
 · rw [if_pos h, if_pos h]
 · rw [if_neg h, if_neg h]
   unfold NodeD.take
   rw [if_neg h]
theorem places_wt : placesOf Tryz.prog 91 = some (Wt.zero.cells, [(0, 40), (40, 610)]) := by kernel_rfl
theorem built_wt {a : SlotD} {q : PktD} (ha : a.ok) (hq : q.ok) (w : World) : (Instr.build 91 [(0, Value.agg a.cells.toArray), (1, .agg q.cells.toArray)].toArray).run Tryz.prog w = .ok (.agg (Wt.mk a q).cells.toArray) w := by
 refine run_buildL places_wt [(0, Value.agg a.cells.toArray), (1, .agg q.cells.toArray)] ?_ w
 have h1 : a.cells.length = 40 := SlotD.cells_length ha.nonce ha.mac
 have h2 : q.cells.length = 610 := PktD.cells_length hq
 have h3 : SlotD.zero.cells.length = 40 := SlotD.cells_length (zs_length 16) (zs_length 16)
 have h4 : PktD.zero.cells.length = 610 := PktD.cells_length PktD.zero_ok
 show buildL _ _ [(0, a.cells), (1, q.cells)] = _
 unfold Wt.cells Wt.zero
 simp only [buildL, List.getElem?_cons_zero, List.getElem?_cons_succ]
 rw [if_pos ⟨h1, by simp [h1, h3, h4]⟩]
 simp only [List.take_zero, List.nil_append, Nat.zero_add]
 rw [if_pos ⟨h2, by simp [h1, h2, h3, h4]⟩]
 congr 1
 rw [h1, show (SlotD.zero.cells ++ PktD.zero.cells).drop 40 = PktD.zero.cells from by rw [← h3, List.drop_left], ← h1, List.take_left, List.drop_of_length_le (by simp [h1, h2, h4]), List.append_nil]
section
variable {w0 w : World} {F : List SP} {p mb : Nat} {s : NodeD}
set_option maxRecDepth 10000 in
set_option maxHeartbeats 8000000 in
theorem ntake_c {n m : Nat} (G : Glob w0) (H : At w0 (nodeo p mb s :: F) w) (hs : s.ok n m) (hn : n < 1000000) {v : Value} {b : Bytes} (hv : SeeB w0 (nodeo p mb s :: F) v b) {now : Nat} (hnow : now < 18446744073709551616) :
    Calls Tryz.prog 33 #[.pointer (some ⟨p, 0, none⟩), v, .int .u64 (now : Int)] w fun e w' => e = .returned (.int .i64 (s.takeE b now : Int)) ∧ At w0 (nodeo p mb (took s b now) :: F) w' := by
 obtain ⟨E, hE⟩ : ∃ E, E = s.takeE b now := ⟨_, rfl⟩
 obtain ⟨T, hT⟩ : ∃ T, T = took s b now := ⟨_, rfl⟩
 have HTZ : E ≠ 0 → T = s := fun h => by rw [hT, took, if_neg (by rw [← hE]; exact h)]
 rw [← hE, ← hT]
 have hE1 := hE
 unfold NodeD.takeE at hE1
 by_cases hb1 : b.length < 614
 · obtain rfl : E = 2 := hE1.trans (if_pos hb1)
   obtain rfl : T = s := HTZ (by omega)
   have HC := Lib.hid (unpack_short H hv hb1)
   have hpl := Lib.hid (PktD.cells_length PktD.zero_ok)
   clear hE hT hE1 HTZ hb1 hv hs hn hnow H
   go_enter Tryz.func33, Tryz.ntmps33
   go_wp2_with fail
   refine HC.out.mono ?_; rintro e w' ⟨rfl, H⟩
   go_wp2_with ((with_reducible refine wpList_op rfl ?_); intro _ hK; first
    | (refine dst_is 7 rfl ?_; refine wp_alloc_sl 89 rfl info_pkt H (fun P w' (H : At w0 (raw P PktD.zero.cells.toArray 89 :: _) w') _ => hK _ _ ?_))
    | (refine sto_is 7 rfl ?_; refine wp_store_row_sl 89 _ _ rfl (cells := PktD.zero.cells.toArray) rfl rfl (by rw [List.size_toArray, hpl.out]; exact size_pkt) (by simpa using PktD.cells_one) 0 H rfl rfl (fun w' (H : At w0 (raw P PktD.zero.cells.toArray 89 :: _) w') => hK _ _ (Stop.go ?_))))
   refine Stop.un ?_
   go_wp2_with fail
   go_ret
   exact ⟨rfl, H.tail⟩
 by_cases hb2 : 614 < b.length
 · rw [if_neg hb1] at hE1
   obtain rfl : E = 3 := hE1.trans (if_pos hb2)
   obtain rfl : T = s := HTZ (by omega)
   have HC := Lib.hid (unpack_long H hv hb2)
   have hpl := Lib.hid (PktD.cells_length PktD.zero_ok)
   clear hE hT hE1 HTZ hb1 hb2 hv hs hn hnow H
   go_enter Tryz.func33, Tryz.ntmps33
   go_wp2_with fail
   refine HC.out.mono ?_; rintro e w' ⟨rfl, H⟩
   go_wp2_with ((with_reducible refine wpList_op rfl ?_); intro _ hK; first
    | (refine dst_is 7 rfl ?_; refine wp_alloc_sl 89 rfl info_pkt H (fun P w' (H : At w0 (raw P PktD.zero.cells.toArray 89 :: _) w') _ => hK _ _ ?_))
    | (refine sto_is 7 rfl ?_; refine wp_store_row_sl 89 _ _ rfl (cells := PktD.zero.cells.toArray) rfl rfl (by rw [List.size_toArray, hpl.out]; exact size_pkt) (by simpa using PktD.cells_one) 0 H rfl rfl (fun w' (H : At w0 (raw P PktD.zero.cells.toArray 89 :: _) w') => hK _ _ (Stop.go ?_))))
   refine Stop.un ?_
   go_wp2_with fail
   go_ret
   exact ⟨rfl, H.tail⟩
 rw [if_neg hb1, if_neg hb2] at hE1
 have hb : b.length = 614 := by omega
 obtain ⟨Q, hQ⟩ : ∃ Q, Q = unpackOf b := ⟨_, rfl⟩
 have QO := Lib.hid (show Q.ok by rw [hQ]; exact unpackOf_ok hb)
 have HC := Lib.hid (unpack_c H hv hb)
 rw [← hQ] at hE1 HC
 have hpl := Lib.hid (PktD.cells_length QO.out)
 obtain ⟨kk, hkk⟩ : ∃ kk, kk = (mlook s.cl Q.who).getD (zs 32) := ⟨_, rfl⟩
 have hkl := Lib.hid (show kk.length = 32 by rw [hkk]; exact keyD_length hs Q.who)
 obtain ⟨e1, he1⟩ : ∃ e1, e1 = s.openE Q now := ⟨_, rfl⟩
 obtain ⟨R, hR⟩ : ∃ R, R = peelOf kk Q := ⟨_, rfl⟩
 obtain ⟨r1, hr1⟩ : ∃ x, x = R.1 := ⟨_, rfl⟩
 obtain ⟨r2, hr2⟩ : ∃ x, x = R.2.1 := ⟨_, rfl⟩
 obtain ⟨e2, he2⟩ : ∃ x, x = R.2.2 := ⟨_, rfl⟩
 have hR3 : peelOf kk Q = (r1, r2, e2) := by rw [← hR, hr1, hr2, he2]
 have RO := Lib.hid (peel_ok QO.out hR3)
 have hkey : e1 = 0 → s.keyOf Q = kk := fun h => by rw [hkk]; exact (openE_zero (he1.symm.trans h)).1.symm
 have hE2 : E = if e1 ≠ 0 then e1 else if e2 ≠ 0 then e2 else if now < r1.lo then 5 else if r1.hi < now then 6 else if 18446744073709551616 ≤ now + r1.delay then 9 else s.freshE (Q.epoch, tagOf kk Q.epoch Q.nonce) := by
  rw [hE1, ← he1]
  by_cases h : e1 = 0
  · rw [if_neg (show ¬ e1 ≠ 0 by omega), if_neg (show ¬ e1 ≠ 0 by omega)]
    unfold NodeD.peelP NodeD.tagP
    rw [hkey h, hR3]
  · rw [if_pos h, if_pos h]
 obtain ⟨e3, he3⟩ : ∃ e3 : Nat, e3 = if now < r1.lo then 5 else if r1.hi < now then 6 else 0 := ⟨_, rfl⟩
 obtain ⟨tg, htg⟩ : ∃ tg, tg = tagOf kk Q.epoch Q.nonce := ⟨_, rfl⟩
 have htl := Lib.hid (show tg.length = 16 by rw [htg]; unfold tagOf; rw [List.length_take, (keysOf_ok _ _ _).tag]; rfl)
 obtain ⟨e5, he5⟩ : ∃ e5, e5 = s.freshE (Q.epoch, tg) := ⟨_, rfl⟩
 have hE3 : E = if e1 ≠ 0 then e1 else if e2 ≠ 0 then e2 else if e3 ≠ 0 then e3 else if 18446744073709551616 ≤ now + r1.delay then 9 else e5 := by
  rw [hE2, he5, he3, htg]
  repeat' split
  all_goals first | rfl | omega
 have hT0 : E = 0 → e1 = 0 → T = s.add (Q.epoch, tg) (now + r1.delay) ⟨⟨r1, r2⟩, RO.out.1, RO.out.2⟩ := fun h0 h1 => by
  rw [hT, took, if_pos (by rw [← hE]; exact h0), NodeD.take, if_pos (by rw [← hE]; exact h0), ← hQ]
  unfold NodeD.peelP NodeD.tagP NodeD.wtOf
  rw [hkey h1, hR3, ← htg, dif_pos ⟨RO.out.1, RO.out.2⟩]
 have HTZ2 := Lib.hid HTZ
 have HT0 := Lib.hid hT0
 have HE := Lib.hid hE3
 have HR3 := Lib.hid hR3
 have HTG := Lib.hid htg
 have HE5 := Lib.hid he5
 have HE3 := Lib.hid he3
 have HOP := Lib.hid (fun (w : World) (F : List SP) (H : At w0 (nodeo p mb s :: F) w) => nopen_c H hs QO.out hnow)
 rw [← hkk, ← he1] at HOP
 have HS := Lib.hid hs
 have HNOW := Lib.hid hnow
 have HN := Lib.hid hn
 clear hE1 hE2 hE3 hE hT HTZ hT0 hR3 hR hr1 hr2 he2 he1 he3 he5 htg hkk hkey hQ hb1 hb2 hb hv hnow hs hn H
 go_enter Tryz.func33, Tryz.ntmps33
 go_wp2_with fail
 refine HC.out.mono ?_; rintro e w' ⟨rfl, H⟩
 go_wp2_with ((with_reducible refine wpList_op rfl ?_); intro _ hK; first
  | (refine dst_is 7 rfl ?_; refine wp_alloc_sl 89 rfl info_pkt H (fun P w' (H : At w0 (raw P PktD.zero.cells.toArray 89 :: _) w') _ => hK _ _ ?_))
  | (refine sto_is 7 rfl ?_; refine wp_store_row_sl 89 _ _ rfl (cells := Q.cells.toArray) rfl rfl (by rw [List.size_toArray, hpl.out]; exact size_pkt) (by simpa using PktD.cells_one) 0 H rfl (by rw [List.size_toArray, List.size_toArray, hpl.out, PktD.cells_length PktD.zero_ok]) (fun w' (H : At w0 (raw P Q.cells.toArray 89 :: _) w') => hK _ _ (Stop.go ?_))))
 refine Stop.un ?_
 go_wp2_with ((with_reducible refine wpList_op rfl ?_); intro _ hK; (refine dst_is 27 rfl ?_; refine wp_mid 89 _ rfl rfl Q.cells (by kernel_rfl) (by rw [hpl.out]; exact size_pkt) (at_blk H 0 rfl) (hK _ _ ?_)))
 refine (HOP.out _ _ (H.pull 1 rfl)).mono ?_; rintro e w' ⟨rfl, H⟩
 go_wp2_with ((with_reducible refine wpList_op rfl ?_); intro _ hK; first
  | (refine dst_is 9 rfl ?_; refine wp_alloc_sl 41 rfl info_keyt H (fun X w' (H : At w0 (raw X (v8 (zs 32)).toArray 41 :: _) w') _ => hK _ _ ?_))
  | (refine sto_is 9 rfl ?_; refine wp_sta 41 _ _ rfl (cs := kk) rfl rfl (by rw [hkl.out]; exact size_key) 0 H rfl (by rw [hkl.out, zs_length]) (fun w' (H : At w0 (raw X (v8 kk).toArray 41 :: _) w') => hK _ _ (Stop.go ?_))))
 refine Stop.un ?_
 replace H := H.pull 1 rfl
 by_cases h1 : e1 = 0
 · subst h1
   have hrl := Lib.hid (SlotD.cells_length RO.out.1.nonce RO.out.1.mac)
   have hnl := Lib.hid (PktD.cells_length RO.out.2)
   go_wp2_with ((with_reducible refine wpList_op rfl ?_); intro _ hK; first
    | (refine dst_is 36 rfl ?_; refine wp_lda 41 _ rfl rfl (by kernel_rfl) (by rw [hkl.out]; exact size_key) 1 H rfl (hK _ _ ?_))
    | (refine dst_is 37 rfl ?_; refine wp_mid 89 _ rfl rfl Q.cells (by kernel_rfl) (by rw [hpl.out]; exact size_pkt) (at_blk H 2 rfl) (hK _ _ (Stop.go ?_))))
   refine Stop.un ?_
   go_wp2_with fail
   refine (peel_c G H hkl.out QO.out).mono ?_; rintro e w' ⟨rfl, H⟩
   rw [HR3.out]
   go_wp2_with ((with_reducible refine wpList_op rfl ?_); intro _ hK; first
    | (refine dst_is 10 rfl ?_; refine wp_alloc_sl 60 rfl info_slot H (fun Y w' (H : At w0 (raw Y SlotD.zero.cells.toArray 60 :: _) w') _ => hK _ _ ?_))
    | (refine dst_is 11 rfl ?_; refine wp_alloc_sl 89 rfl info_pkt H (fun N w' (H : At w0 (raw N PktD.zero.cells.toArray 89 :: raw Y SlotD.zero.cells.toArray 60 :: _) w') _ => hK _ _ ?_))
    | (refine sto_is 10 rfl ?_; refine wp_store_row_sl 60 _ _ rfl (cells := r1.cells.toArray) rfl rfl (by rw [List.size_toArray, hrl.out]; exact size_slot) (by simpa using SlotD.cells_one) 1 H rfl (by rw [List.size_toArray, List.size_toArray, hrl.out, SlotD.cells_length (zs_length 16) (zs_length 16)]) (fun w' (H : At w0 (raw N PktD.zero.cells.toArray 89 :: raw Y r1.cells.toArray 60 :: _) w') => hK _ _ ?_))
    | (refine sto_is 11 rfl ?_; refine wp_store_row_sl 89 _ _ rfl (cells := r2.cells.toArray) rfl rfl (by rw [List.size_toArray, hnl.out]; exact size_pkt) (by simpa using PktD.cells_one) 0 H rfl (by rw [List.size_toArray, List.size_toArray, hnl.out, PktD.cells_length PktD.zero_ok]) (fun w' (H : At w0 (raw N r2.cells.toArray 89 :: raw Y r1.cells.toArray 60 :: _) w') => hK _ _ (Stop.go ?_))))
   refine Stop.un ?_
   replace H := H.pull 2 rfl
   by_cases h2 : e2 = 0
   · subst h2
     go_wp2_with ((with_reducible refine wpList_op rfl ?_); intro _ hK; first
      | (refine dst_is 46 rfl ?_; refine wp_get 22 _ rfl rfl (by kernel_rfl) (at_raw H 2 rfl (j := 37) (v := .int .u64 (r1.lo : Int)) ((SlotD.cells_post RO.out.1.nonce RO.out.1.mac 0).trans rfl)) (hK _ _ ?_))
      | (refine dst_is 48 rfl ?_; refine wp_get 22 _ rfl rfl (by kernel_rfl) (at_raw H 2 rfl (j := 38) (v := .int .u64 (r1.hi : Int)) ((SlotD.cells_post RO.out.1.nonce RO.out.1.mac 1).trans rfl)) (hK _ _ (Stop.go ?_))))
     refine Stop.un ?_
     go_wp2_with fail
     refine (whas_c H r1.lo r1.hi now).mono ?_; rintro e w' ⟨rfl, H⟩
     rw [← HE3.out]
     by_cases h3 : e3 = 0
     · rw [h3]
       have hdl := Lib.hid RO.out.1.delay
       have hw1 : IntKind.u64.wrap (r1.delay : Int) = (r1.delay : Int) := by have := hdl.out; rw [IntKind.wrap_u64]; omega
       go_wp2_with ((with_reducible refine wpList_op rfl ?_); intro _ hK; (refine dst_is 58 rfl ?_; refine wp_get 36 _ rfl rfl (by kernel_rfl) (at_raw H 2 rfl (j := 39) (v := .int .u32 (r1.delay : Int)) ((SlotD.cells_post RO.out.1.nonce RO.out.1.mac 2).trans rfl)) (hK _ _ (Stop.go ?_))))
       refine Stop.un ?_
       go_wp2_with fail
       refine (cadd_c HNOW.out (by have := hdl.out; omega) _).mono ?_; rintro e w' ⟨rfl, rfl⟩
       by_cases h4 : now + r1.delay < 18446744073709551616
       · rw [decide_eq_true h4, show addN now r1.delay = now + r1.delay from if_pos h4]
         have H4 := Lib.hid h4
         obtain ⟨at_, hat⟩ : ∃ x, x = now + r1.delay := ⟨_, rfl⟩
         rw [← hat]
         have HAT := Lib.hid hat
         clear h4 hat
         have hnn := Lib.hid (PktD.part_nonce QO.out)
         go_wp2_with ((with_reducible refine wpList_op rfl ?_); intro _ hK; first
          | (refine dst_is 65 rfl ?_; refine wp_lda 41 _ rfl rfl (by kernel_rfl) (by rw [hkl.out]; exact size_key) 3 H rfl (hK _ _ ?_))
          | (refine dst_is 67 rfl ?_; refine wp_get 36 _ rfl rfl (by kernel_rfl) (at_raw H 4 rfl (j := 1) rfl) (hK _ _ ?_))
          | (refine dst_is 69 rfl ?_; refine wp_mid 57 _ rfl rfl (v8 Q.nonce) (by kernel_rfl) (by rw [v8_length, QO.out.nonce]; exact size_nonce) (at_part H 4 rfl (by rw [v8_length, QO.out.nonce]; exact hnn.out)) (hK _ _ (Stop.go ?_))))
         refine Stop.un ?_
         go_wp2_with fail
         refine (otag_c G H hkl.out QO.out.nonce QO.out.epoch).mono ?_; rintro e w' ⟨rfl, H⟩
         rw [← HTG.out]
         go_wp2_with ((with_reducible refine wpList_op rfl ?_); intro _ hK; first
          | (refine dst_is 15 rfl ?_; refine wp_alloc_sl 104 rfl info_tagt H (fun Z w' (H : At w0 (raw Z (v8 (zs 16)).toArray 104 :: _) w') _ => hK _ _ ?_))
          | (refine sto_is 15 rfl ?_; refine wp_sta 104 _ _ rfl (cs := tg) rfl rfl (by rw [htl.out]; exact size_tagt) 0 H rfl (by rw [htl.out, zs_length]) (fun w' (H : At w0 (raw Z (v8 tg).toArray 104 :: _) w') => hK _ _ (Stop.go ?_))))
         refine Stop.un ?_
         replace H := H.pull 1 rfl
         go_wp2_with ((with_reducible refine wpList_op rfl ?_); intro _ hK; first
          | (refine dst_is 73 rfl ?_; refine wp_get 36 _ rfl rfl (by kernel_rfl) (at_raw H 5 rfl (j := 1) rfl) (hK _ _ ?_))
          | (refine dst_is 74 rfl ?_; refine wp_lda 104 _ rfl rfl (by kernel_rfl) (by rw [htl.out]; exact size_tagt) 1 H rfl (hK _ _ (Stop.go ?_))))
         refine Stop.un ?_
         go_wp2_with fail
         refine (nfresh_c H QO.out.epoch htl.out).mono ?_; rintro e w' ⟨rfl, H⟩
         rw [← HE5.out]
         by_cases h5 : e5 = 0
         · obtain rfl : E = 0 := by
             have h4 := H4.out
             rw [HE.out, if_neg (by simp), if_neg (by simp), if_neg (by simp [h3]), if_neg (by omega), h5]
           have HT := Lib.hid (HT0.out (by simp) (by simp))
           have HF := Lib.hid (NodeD.freshE_zero (HE5.out.symm.trans h5))
           rw [h5]
           clear h5 h3
           obtain ⟨cb, hb, tb, H⟩ := node_open H
           go_wp2_with fail
           refine wpM_begin [] ((fun w => At w0 (raw p (nodeC s cb hb tb mb).toArray 96 :: raw Z (v8 tg).toArray 104 :: raw P Q.cells.toArray 89 :: F) w)) [(0, 2), (1, 2), (2, 2), (3, 1), (4, 2), (5, 1), (6, 1), (7, 0)] rfl (by kernel_rfl) (by kernel_rfl) ((H.drew.maskR [true, false, false, false, false, true, false, false, false, true])) ?_
           intro ops hOps hS
           replace H := H.drew
           iterate 3 refine fm hOps ?_
           refine tm hOps hS (fun w hw => at_raw hw 0 rfl (j := 5) rfl) ?_
           refine fm hOps ?_
           refine tm hOps hS (fun w hw => at_raw hw 2 rfl (j := 1) rfl) ?_
           refine wpM_take hOps hS rfl (fun _ _ _ h => h) (yl_lda rfl 104 _ rfl rfl (by kernel_rfl) (by rw [htl.out]; exact size_tagt) (fun w hw => at_blk hw 1 rfl)) ?_
           simp only [nrm]
           refine wpM_next hOps rfl rfl ?_
           intro K hK
           refine wp_call _ _ _ rfl Tryz.func57 rfl (by kernel_rfl) ?_
           simp only [List.map_toArray, List.map_cons, List.map_nil, Act.eval, Array.getD_eq_getD_getElem?, List.getElem?_toArray, List.getElem?_cons_zero, List.getElem?_cons_succ, Option.getD_some]
           refine (tadd_c (H.pull 3 rfl) QO.out.epoch htl.out HF.out.1 HF.out.2.1 HF.out.2.2.2 (by have := HS.out.tags; omega)).mono ?_; rintro e w' ⟨⟨v1, rfl⟩, H⟩
           have hS := ((H.maskR [false, true, false, false, false, true, false, false, false, true]))
           refine hK _ _ (.inr hS) ?_
           clear hK K
           simp only [nrm]
           refine wpM_end ?_
           clear hOps hS ops
           go_wp2_with fail
           refine wpM_begin [] ((fun w => At w0 (raw p (nodeC s cb hb tb mb).toArray 96 :: raw N r2.cells.toArray 89 :: raw Y r1.cells.toArray 60 :: F) w)) [(0, 2), (1, 2), (2, 2), (3, 1), (4, 2), (5, 1), (6, 1), (7, 2), (8, 0)] rfl (by kernel_rfl) (by kernel_rfl) ((H.drew.maskR [false, true, false, false, false, false, true, true, false, false])) ?_
           intro ops hOps hS
           replace H := H.drew
           iterate 3 refine fm hOps ?_
           refine tm hOps hS (fun w hw => at_raw hw 0 rfl (j := 4) rfl) ?_
           refine fm hOps ?_
           refine wpM_take hOps hS rfl (fun _ _ _ h => h) (yl_mid rfl 60 _ rfl rfl r1.cells (by kernel_rfl) (by rw [hrl.out]; exact size_slot) (fun w hw => at_blk hw 2 rfl)) ?_
           simp only [nrm]
           refine wpM_take hOps hS rfl (fun _ _ _ h => h) (yl_mid rfl 89 _ rfl rfl r2.cells (by kernel_rfl) (by rw [hnl.out]; exact size_pkt) (fun w hw => at_blk hw 1 rfl)) ?_
           simp only [nrm]
           refine wpM_free hOps rfl (fun _ _ _ h => h) (yl_build rfl 91 _ rfl (by rw [Array.toList_map]; rfl) (built_wt RO.out.1 RO.out.2)) ?_
           simp only [nrm]
           refine wpM_next hOps rfl rfl ?_
           intro K hK
           refine wp_call _ _ _ rfl Tryz.func58 rfl (by kernel_rfl) ?_
           simp only [List.map_toArray, List.map_cons, List.map_nil, Act.eval, Array.getD_eq_getD_getElem?, List.getElem?_toArray, List.getElem?_cons_zero, List.getElem?_cons_succ, Option.getD_some]
           refine (pushW_c (H.pull 3 rfl) (at_ : Int) ⟨⟨r1, r2⟩, RO.out.1, RO.out.2⟩ (by have := HF.out.2.2.1; omega) (by omega) (by have := HS.out.nx; have := HN.out; omega) (by have := HF.out.2.2.1; have := HS.out.room; omega)).mono ?_; rintro e w' ⟨⟨v2, rfl⟩, H⟩
           have hS := ((H.maskR [false, false, true, false, false, false, true, true, false, false]))
           refine hK _ _ (.inr hS) ?_
           clear hK K
           simp only [nrm]
           refine wpM_end ?_
           clear hOps hS ops
           go_wp2_with fail
           go_ret
           refine ⟨rfl, ?_⟩
           rw [HT.out, ← HAT.out]
           refine node_shut (cb := cb) (hb := hb) (tb := tb) ?_
           replace H := ((H.pull 3 rfl).pull 3 rfl).maskR [true, true, true, true, true, false, false, false, false, false]
           exact H
         · obtain rfl : E = e5 := by
             have h4 := H4.out
             rw [HE.out, if_neg (by simp), if_neg (by simp), if_neg (by simp [h3]), if_neg (by omega)]
           obtain rfl : T = s := HTZ2.out h5
           have b1 : ((E : Int) != 0) = true := by simp; omega
           clear h5
           go_wp2_with fail
           go_ret
           exact ⟨rfl, H.maskR [true, false, false, false, false, false]⟩
       · have h4' := h4
         obtain rfl : E = 9 := by rw [HE.out, if_neg (by simp), if_neg (by simp), if_neg (by simp [h3]), if_pos (by omega)]
         obtain rfl : T = s := HTZ2.out (by omega)
         rw [decide_eq_false h4]
         obtain ⟨x, hx⟩ : ∃ x, x = addN now r1.delay := ⟨_, rfl⟩
         rw [← hx]
         clear h4 h4' hx
         go_wp2_with fail
         go_ret
         exact ⟨rfl, H.maskR [true, false, false, false, false]⟩
     · obtain rfl : E = e3 := by rw [HE.out, if_neg (by simp), if_neg (by simp), if_pos h3]
       obtain rfl : T = s := HTZ2.out h3
       have b1 : ((E : Int) != 0) = true := by simp; omega
       clear h3
       go_wp2_with fail
       go_ret
       exact ⟨rfl, H.maskR [true, false, false, false, false]⟩
   · obtain rfl : E = e2 := by rw [HE.out, if_neg (by simp), if_pos h2]
     obtain rfl : T = s := HTZ2.out h2
     have b1 : ((E : Int) != 0) = true := by simp; omega
     clear h2
     go_wp2_with fail
     go_ret
     exact ⟨rfl, H.maskR [true, false, false, false, false]⟩
 · obtain rfl : E = e1 := HE.out.trans (if_pos h1)
   obtain rfl : T = s := HTZ2.out h1
   have b1 : ((E : Int) != 0) = true := by simp; omega
   clear h1
   go_wp2_with fail
   go_ret
   exact ⟨rfl, H.maskR [true, false, false]⟩
set_option maxRecDepth 10000 in
set_option maxHeartbeats 2000000 in
theorem nTake_c {n m : Nat} (G : Glob w0) (H : At w0 (nodeo p mb s :: F) w) (hs : s.ok n m) (hn : n < 1000000) (hm : m ≤ 1000000) {v : Value} {b : Bytes} (hv : SeeB w0 (nodeo p mb s :: F) v b) {now : Nat} (hnow : now < 18446744073709551616) :
    Calls Tryz.prog 20 #[.pointer (some ⟨p, 0, none⟩), v, .int .u64 (now : Int)] w fun e w' => e = .returned (.int .i64 (s.takeE b now : Int)) ∧ At w0 (nodeo p mb (s.take b now) :: F) w' := by
 have HC := Lib.hid (ntake_c G H hs hn hv hnow)
 have hle := NodeD.takeE_le s b now
 have htk := takeN_eq s b now
 have HZ := Lib.hid (show s.takeE b now ≠ 0 → took s b now = s from fun h => by rw [took, if_neg h])
 obtain ⟨E, hE⟩ : ∃ E, E = s.takeE b now := ⟨_, rfl⟩
 obtain ⟨T, hT⟩ : ∃ T, T = took s b now := ⟨_, rfl⟩
 rw [htk]
 rw [← hE, ← hT] at HC HZ ⊢
 rw [← hE] at hle
 have HLE := Lib.hid hle
 have HD := Lib.hid (And.intro hs.dlen hs.drops)
 have HM := Lib.hid hm
 clear hE hT hle htk hs hn hv hnow hm H
 by_cases h0 : E = 0
 · subst h0
   rw [if_pos rfl]
   go_enter Tryz.func20, Tryz.ntmps20
   go_wp2_with fail
   refine HC.out.mono ?_; rintro e w' ⟨rfl, H⟩
   go_wp2_with fail
   go_ret
   exact ⟨rfl, H⟩
 · obtain rfl : T = s := HZ.out h0
   rw [if_neg h0]
   have b1 : ((E : Int) != 0) = true := by simp; omega
   clear h0
   go_enter Tryz.func20, Tryz.ntmps20
   go_wp2_with fail
   refine HC.out.mono ?_; rintro e w' ⟨rfl, H⟩
   go_wp2_with fail
   refine (ndrop_c H HD.out.1 (by have := HLE.out; omega) HD.out.2 HM.out).mono ?_; rintro e w' ⟨rfl, H⟩
   go_wp2_with fail
   go_ret
   exact ⟨rfl, H⟩
end
end Go.Proofs.YtmflbekabkainaaGreatDoor
