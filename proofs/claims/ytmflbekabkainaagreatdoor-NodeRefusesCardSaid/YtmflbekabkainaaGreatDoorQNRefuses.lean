import Derived.Test.YtmflbekabkainaaGreatDoorQNOpz
import Derived.Test.YtmflbekabkainaaGreatDoorQNFew
set_option linter.unusedVariables false
set_option linter.unusedSimpArgs false
namespace Go.Proofs.YtmflbekabkainaaGreatDoor
open Go.ChangeShapes Go.WideShapes Go.ChangeAt Go.RowKit Go.Hg
set_option maxRecDepth 20000 in
set_option maxHeartbeats 4000000 in
theorem nodeRefuses_c {w0 w : World} {F : List SP} (G : Glob w0) (H : At w0 F w) {v : Value} {ops : List OpO} (hv : SeeL 15 opC w0 [] v ops) (hbs : ∀ x ∈ ops, ∃ bs, SeeB w0 [] x.1.b bs) (room tags : Int) {nw : Nat} (hnw : nw < 18446744073709551616) :
    Calls Tryz.prog 4 #[.int .i64 room, .int .i64 tags, .int .u64 (nw : Int), v] w fun e w' => e = .returned (.bool true) ∧ At w0 F w' := by
 obtain ⟨a, q, rfl, hcap, hsome⟩ := hv.slice
 obtain ⟨m, hm⟩ : ∃ m, m = ops.length := ⟨_, rfl⟩
 rw [← hm] at hv hcap hsome ⊢
 have HSOME := Lib.hid hsome
 have HM := Lib.hid hm
 have HV := Lib.hid hv
 have HBS := Lib.hid hbs
 have HNW0 := Lib.hid hnw
 obtain ⟨s0, hs0⟩ : ∃ s, s = NodeD.fresh 1 room tags 3 := ⟨_, rfl⟩
 have HS0 := Lib.hid (show NodeD.fresh 1 room tags 3 = s0 from hs0.symm)
 have HOK0 := Lib.hid (show s0.ok 0 0 by rw [hs0]; exact NodeD.fresh_ok (by omega) room tags 3)
 clear hs0 hv hm hsome hcap hbs hnw
 go_enter Tryz.func4, Tryz.ntmps4
 go_wp2_with fail
 refine (lshown_c G H).mono ?_; rintro e w' ⟨rfl, H⟩
 go_wp2_with fail
 refine (nnew_c H (addr := 1) (by omega) room tags 3).mono ?_; rintro e w' ⟨p, mb, rfl, H⟩
 rw [HS0.out] at H
 go_wp2_with fail
 refine (nnew_c H (addr := 1) (by omega) room tags 3).mono ?_; rintro e w' ⟨p2, mb2, rfl, H⟩
 rw [HS0.out] at H
 replace H := H.bag_nil
 go_wp2_with fail
 go_loopw [2, 12, 13] (fun nv l i wr => ∃ (j nw : Nat) (S T : NodeD) (d : List Nat) (Y : List SP) (ls : Bytes), j ≤ 60 ∧ nv = .int .u64 (nw : Int) ∧ nw < 18446744073709551616 ∧ i = .int .i64 j ∧ S.ok j (64 * j) ∧ T.ok j (64 * j) ∧ S = T.wd d ∧ SeeB w0 [bag Y] l ls ∧ At w0 (bag Y :: nodeo p mb S :: nodeo p2 mb2 T :: F) wr) (fun _ _ i _ => 60 - (intOf i).toNat)
 case atStart => exact ⟨0, nw, s0, s0, s0.drops, [], [], by omega, rfl, HNW0.out, rfl, HOK0.out, HOK0.out, rfl, see_nil _ _ _ _, H.pull 2 rfl |>.pull 1 rfl⟩
 case round =>
  clear H HNW0 nw
  obtain ⟨j, nw, S, T, d, Y, ls, hj, rfl, hnw, rfl, hok, hok2, hd, hsl, H⟩ := hrel
  have HJ := Lib.hid hj
  have HNW := Lib.hid hnw
  have HOK := Lib.hid hok
  have HOK2 := Lib.hid hok2
  have HD := Lib.hid hd
  have HSL := Lib.hid hsl
  clear hj hnw hok hok2 hd hsl
  by_cases g1 : (j : Int) < m
  · by_cases g2 : (j : Int) < 60
    · have HJ6 := Lib.hid (show j < 60 by omega)
      obtain ⟨b, off, rfl⟩ := HSOME.out (by omega)
      obtain ⟨x, hx⟩ : ∃ x, ops[j]? = some x := ⟨_, List.getElem?_eq_getElem (by rw [← HM.out]; omega)⟩
      obtain ⟨bs, hbs⟩ := HBS.out x (List.mem_of_getElem? hx)
      have HR := Lib.hid (fun (L : List SP) (w : World) (hw : At w0 L w) => (HV.out.weak (List.nil_sublist L)).elem el_op hw hx)
      obtain ⟨o, ho⟩ := x
      have HO := Lib.hid ho
      have HB := Lib.hid (show SeeB w0 [] o.b bs from hbs)
      replace HR := Lib.hid (show ∀ (L : List SP) (w : World), At w0 L w → w.rangeAt b (off + j * 15) o.cells from HR.out)
      obtain ⟨k, hk⟩ : ∃ k, k = o.kind := ⟨_, rfl⟩
      have hc0 := Lib.hid (show o.cells[0]? = some (.int .i64 k) by rw [hk]; rfl)
      have hc1 := Lib.hid (show o.cells[1]? = some (.int .u16 (o.by_ : Int)) from rfl)
      have hc2 := Lib.hid (show o.cells[2]? = some (.int .u16 (o.who : Int)) from rfl)
      have hc3 := Lib.hid (show o.cells[3]? = some (.int .u8 (o.key : Int)) from rfl)
      obtain ⟨by1, hby⟩ : ∃ by1, by1 = o.by_ := ⟨_, rfl⟩
      rw [← hby] at hc1
      obtain ⟨rr, hrr⟩ : ∃ rr : Nat, rr = 18446744073709551615 - nw := ⟨_, rfl⟩
      obtain ⟨mm, hmm⟩ : ∃ mm : Nat, mm = min by1 rr := ⟨_, rfl⟩
      obtain ⟨n2, hn2⟩ : ∃ n2 : Nat, n2 = nw + mm := ⟨_, rfl⟩
      have hby6 : by1 < 65536 := by rw [hby]; exact ho.by_
      have e1 : IntKind.u64.wrap (18446744073709551615 - (nw : Int)) = (rr : Int) := by have := HNW.out; rw [IntKind.wrap_u64]; omega
      have e2 : (if rr < by1 then (rr : Int) else (by1 : Int)) = (mm : Int) := by rw [hmm]; split <;> omega
      have e3 : IntKind.u64.wrap ((nw : Int) + (mm : Int)) = (n2 : Int) := by have := HNW.out; rw [IntKind.wrap_u64]; omega
      have e4 : IntKind.u64.wrap (by1 : Int) = (by1 : Int) := by rw [IntKind.wrap_u64]; omega
      have HN2 := Lib.hid (show n2 < 18446744073709551616 by have := HNW.out; omega)
      have HK := Lib.hid hk
      clear hx hbs ho hk hby hrr hmm hn2 hby6
      go_wp2_with ((with_reducible refine wpList_op rfl ?_); intro _ hK; first
       | (refine dst_is 46 rfl ?_; refine wp_mid 38 _ rfl (b := b) (off := off + j * 15) rfl o.cells (by kernel_rfl) (by rw [opC_length]; exact info_op) (HR.out _ _ H) (hK _ _ ?_))
       | (refine dst_is 14 rfl ?_; refine wp_alloc_sl 38 rfl info_opz H (fun O w' (H : At w0 (raw O opZ.toArray 38 :: _) w') _ => hK _ _ ?_))
       | (refine sto_is 14 rfl ?_; refine wp_store_row_sl 38 _ _ rfl (b := O) (cells := o.cells.toArray) rfl rfl (by rw [List.size_toArray, opC_length]; exact info_op) (op_one HO.out) 0 H rfl (by simp only [List.size_toArray]; rfl) (fun w' (H : At w0 (raw O o.cells.toArray 38 :: _) w') => hK _ _ (Stop.go ?_))))
      refine Stop.un ?_
      replace H := H
      go_wp2_with ((with_reducible refine wpList_op rfl ?_); intro _ hK; first
       | (refine dst_is 49 rfl ?_; refine wp_get 27 _ rfl rfl (by kernel_rfl) (at_raw H 0 rfl (j := 1) hc1.out) (hK _ _ (Stop.go ?_))))
      refine Stop.un ?_
      go_wp2_with ((with_reducible refine wpList_op rfl ?_); intro _ hK; first
       | (refine dst_is 55 rfl ?_; refine wp_mid 38 _ rfl rfl o.cells (by kernel_rfl) (by rw [opC_length]; exact info_op) (at_blk H 0 rfl) (hK _ _ (Stop.go ?_))))
      refine Stop.un ?_
      clear e1 e2 e3 e4
      go_wp2_with fail
      refine (lbytes_c (H.pull 1 rfl) HO.out HB.out HSL.out HN2.out).mono ?_; rintro e w' ⟨vx, Z, rfl, H, hsx, hsl⟩
      obtain ⟨xs, hxs⟩ : ∃ xs, xs = o.bytes bs n2 ls := ⟨_, rfl⟩
      rw [← hxs] at hsx
      obtain ⟨ax, qx, rfl, _, _⟩ := hsx.slice
      obtain ⟨L, hL⟩ : ∃ L, L = xs.length := ⟨_, rfl⟩
      rw [← hL] at hsx ⊢
      have HXS := Lib.hid hxs
      have HL := Lib.hid hL
      have HSX := Lib.hid hsx
      clear HSL
      have HSL := Lib.hid hsl
      clear hxs hL hsx hsl
      go_wp2_with ((with_reducible refine wpList_op rfl ?_); intro _ hK; first
       | (refine dst_is 61 rfl ?_; refine wp_get 3 _ rfl rfl (by kernel_rfl) (at_raw H 1 rfl (j := 0) hc0.out) (hK _ _ (Stop.go ?_))))
      refine Stop.un ?_
      have e5 : IntKind.i64.wrap ((j : Int) + 1) = ((j + 1 : Nat) : Int) := by have := HJ6.out; rw [IntKind.wrap_i64]; omega
      by_cases hk0 : k = 0
      · subst hk0
        obtain ⟨S1, hS1⟩ : ∃ S1, S1 = (S.client o.who (keyN o.key)).1 := ⟨_, rfl⟩
        obtain ⟨T1, hT1⟩ : ∃ T1, T1 = (T.client o.who (keyN o.key)).1 := ⟨_, rfl⟩
        have HS1 := Lib.hid (show S1.ok (j + 1) (64 * (j + 1)) by rw [hS1]; exact (NodeD.client_ok HOK.out o.who (keyN_length o.key)).mono (by omega) (by omega))
        have HT1 := Lib.hid (show T1.ok (j + 1) (64 * (j + 1)) by rw [hT1]; exact (NodeD.client_ok HOK2.out o.who (keyN_length o.key)).mono (by omega) (by omega))
        have HD1 := Lib.hid (show S1 = T1.wd d by rw [hS1, hT1, HD.out, NodeD.client_wd])
        have HN1 := Lib.hid (show S1.hp.length = T1.hp.length by rw [HD1.out]; rfl)
        have HC1 := Lib.hid (fun (F : List SP) (w : World) (H : At w0 (nodeo p mb S :: F) w) => nclient_c H HOK.out HO.out.who (keyN_length o.key))
        have HC2 := Lib.hid (fun (F : List SP) (w : World) (H : At w0 (nodeo p2 mb2 T :: F) w) => nclient_c H HOK2.out HO.out.who (keyN_length o.key))
        rw [← hS1] at HC1
        rw [← hT1] at HC2
        clear hS1 hT1
        go_wp2_with fail
        refine wpS_begin [] ([raw O o.cells.toArray 38]) (.fr 0 (.fr 1 (.tk 2 (.fr 3 (.tk 4 (.fr 5 (.nx 6 .nil))))))) rfl (by kernel_rfl) (by kernel_rfl) H ?_
        clear H
        intro ops hOps
        iterate 2 refine fs hOps ?_
        refine ts hOps (fun w hw => at_raw hw 0 rfl hc2.out) ?_
        refine fs hOps ?_
        refine ts hOps (fun w hw => at_raw hw 0 rfl hc3.out) ?_
        refine wpS_fcall hOps (v := ?vOp168) rfl (fun _ _ _ h => h) (GY.call rfl _ _ _ rfl Tryz.func16 rfl (by kernel_rfl) ?yOp168) ?_
        case yOp168 =>
         intro L w f H
         simp only [List.map_toArray, List.map_cons, List.map_nil, nrm]
         exact lkey_c H HO.out.key
        simp only [nrm]
        refine wpS_next hOps rfl rfl ?_
        intro w H K hK
        refine wp_call _ _ _ rfl Tryz.func17 rfl (by kernel_rfl) ?_
        simp only [List.map_toArray, List.map_cons, List.map_nil, nrm]
        refine (HC1.out _ _ (H.pull 2 rfl)).mono ?_; rintro e w' ⟨rfl, H⟩
        refine hK _ _ _ (.inr (.inr pk)) H ?_
        clear hK K H
        try simp only [nrm]
        refine wpS_end (fun w H => ?_)
        clear hOps ops
        go_wp2_with fail
        refine wpS_begin [] ([raw O o.cells.toArray 38]) (.fr 0 (.fr 1 (.tk 2 (.fr 3 (.tk 4 (.fr 5 (.nx 6 .nil))))))) rfl (by kernel_rfl) (by kernel_rfl) H ?_
        clear H
        intro ops hOps
        iterate 2 refine fs hOps ?_
        refine ts hOps (fun w hw => at_raw hw 0 rfl hc2.out) ?_
        refine fs hOps ?_
        refine ts hOps (fun w hw => at_raw hw 0 rfl hc3.out) ?_
        refine wpS_fcall hOps (v := ?vOp185) rfl (fun _ _ _ h => h) (GY.call rfl _ _ _ rfl Tryz.func16 rfl (by kernel_rfl) ?yOp185) ?_
        case yOp185 =>
         intro L w f H
         simp only [List.map_toArray, List.map_cons, List.map_nil, nrm]
         exact lkey_c H HO.out.key
        simp only [nrm]
        refine wpS_next hOps rfl rfl ?_
        intro w H K hK
        refine wp_call _ _ _ rfl Tryz.func17 rfl (by kernel_rfl) ?_
        simp only [List.map_toArray, List.map_cons, List.map_nil, nrm]
        refine (HC2.out _ _ (H.pull 3 rfl)).mono ?_; rintro e w' ⟨rfl, H⟩
        refine hK _ _ _ (.inr (.inr pk)) H ?_
        clear hK K H
        try simp only [nrm]
        refine wpS_end (fun w H => ?_)
        clear hOps ops
        replace H : At w0 (bag Z :: nodeo p mb S1 :: nodeo p2 mb2 T1 :: F) w := ((H.pull 1 rfl).pull 2 rfl).maskR [true, true, true, false]
        go_wp2_with fail
        refine (nlen_c (H.pull 1 rfl)).mono ?_; rintro e w' ⟨rfl, rfl⟩
        go_wp2_with fail
        refine (nlen_c (H.pull 2 rfl)).mono ?_; rintro e w' ⟨rfl, rfl⟩
        rw [HN1.out]
        go_wp2_with fail
        first
         | (refine ⟨?_, ?measure⟩; iterate 220 (try apply Exists.intro); refine ⟨?rel, rfl⟩)
         | refine ⟨?rel, ?measure⟩
        case rel => exact ⟨j + 1, n2, S1, T1, d, Z, ls, by have := HJ6.out; omega, rfl, HN2.out, by first | rfl | rw [e5], HS1.out, HT1.out, HD1.out, HSL.out, H⟩
        case measure => have := HJ6.out; (try rw [e5]); simp [intOf]; omega
      · have b0 : (k == 0) = false := by simp; omega
        by_cases hL0 : (0 : Int) < (L : Int)
        · obtain ⟨E, hE⟩ : ∃ E, E = S.takeE xs n2 := ⟨_, rfl⟩
          obtain ⟨S1, hS1⟩ : ∃ S1, S1 = S.take xs n2 := ⟨_, rfl⟩
          have hE2 : E = T.takeE xs n2 := by rw [hE, HD.out]; rfl
          have HS1 := Lib.hid (show S1.ok (j + 1) (64 * (j + 1)) by rw [hS1]; exact (NodeD.take_ok HOK.out xs n2).mono (by omega) (by omega))
          have HTK := Lib.hid (show ∀ (F : List SP) (w : World), At w0 (nodeo p mb S :: bag Z :: F) w → Calls Tryz.prog 20 #[.pointer (some ⟨p, 0, none⟩), .slice ax L qx, .int .u64 (n2 : Int)] w fun e w' => e = .returned (.int .i64 (E : Int)) ∧ At w0 (nodeo p mb S1 :: bag Z :: F) w' from fun F w H => by
           rw [hE, hS1]
           exact nTake_c G H HOK.out (by have := HJ6.out; omega) (by have := HJ6.out; omega) (HSX.out.weak (sub_at [_] _)) HN2.out)
          clear hk0
          by_cases hE0 : E = 0
          · obtain ⟨T1, hT1⟩ : ∃ T1, T1 = T.take xs n2 := ⟨_, rfl⟩
            have HT1 := Lib.hid (show T1.ok (j + 1) (64 * (j + 1)) by rw [hT1]; exact (NodeD.take_ok HOK2.out xs n2).mono (by omega) (by omega))
            have HD1 := Lib.hid (show S1 = T1.wd d by rw [hS1, hT1, HD.out]; exact NodeD.take_yes _ _ (hE2.symm.trans hE0))
            have HN1 := Lib.hid (show S1.hp.length = T1.hp.length by rw [HD1.out]; rfl)
            have HTK2 := Lib.hid (show ∀ (F : List SP) (w : World), At w0 (nodeo p2 mb2 T :: bag Z :: F) w → Calls Tryz.prog 20 #[.pointer (some ⟨p2, 0, none⟩), .slice ax L qx, .int .u64 (n2 : Int)] w fun e w' => e = .returned (.int .i64 0) ∧ At w0 (nodeo p2 mb2 T1 :: bag Z :: F) w' from fun F w H => by
             have := nTake_c G H HOK2.out (by have := HJ6.out; omega) (by have := HJ6.out; omega) (HSX.out.weak (sub_at [_] _)) HN2.out
             rw [← hE2, hE0, ← hT1] at this
             exact this)
            subst hE0
            clear hE hE2 hS1 hT1
            go_wp2_with fail
            refine (HTK.out _ _ (H.pull 2 rfl)).mono ?_; rintro e w' ⟨rfl, H⟩
            go_wp2_with fail
            refine (HTK2.out _ _ ((H.pull 1 rfl).pull 3 rfl)).mono ?_; rintro e w' ⟨rfl, H⟩
            replace H : At w0 (bag Z :: nodeo p mb S1 :: nodeo p2 mb2 T1 :: F) w' := ((H.pull 2 rfl).pull 2 rfl).maskR [true, true, true, false]
            go_wp2_with fail
            refine (nlen_c (H.pull 1 rfl)).mono ?_; rintro e w' ⟨rfl, rfl⟩
            go_wp2_with fail
            refine (nlen_c (H.pull 2 rfl)).mono ?_; rintro e w' ⟨rfl, rfl⟩
            rw [HN1.out]
            go_wp2_with fail
            first
             | (refine ⟨?_, ?measure⟩; iterate 220 (try apply Exists.intro); refine ⟨?rel, rfl⟩)
             | refine ⟨?rel, ?measure⟩
            case rel => exact ⟨j + 1, n2, S1, T1, d, Z, xs, by have := HJ6.out; omega, rfl, HN2.out, by first | rfl | rw [e5], HS1.out, HT1.out, HD1.out, HSX.out, H⟩
            case measure => have := HJ6.out; (try rw [e5]); simp [intOf]; omega
          · obtain ⟨d1, hd1⟩ := NodeD.take_no (s := S) (b := xs) (now := n2) (by rw [← hE]; exact hE0)
            have HD1 := Lib.hid (show S1 = T.wd d1 by rw [hS1, hd1, HD.out]; rfl)
            have HN1 := Lib.hid (show S1.hp.length = T.hp.length by rw [HD1.out]; rfl)
            have b1 : ((E : Int) == 0) = false := by simp; omega
            clear hE hE2 hS1 hd1 hE0
            go_wp2_with fail
            refine (HTK.out _ _ (H.pull 2 rfl)).mono ?_; rintro e w' ⟨rfl, H⟩
            replace H : At w0 (bag Z :: nodeo p mb S1 :: nodeo p2 mb2 T :: F) w' := (H.pull 1 rfl).maskR [true, true, false]
            go_wp2_with fail
            refine (nlen_c (H.pull 1 rfl)).mono ?_; rintro e w' ⟨rfl, rfl⟩
            go_wp2_with fail
            refine (nlen_c (H.pull 2 rfl)).mono ?_; rintro e w' ⟨rfl, rfl⟩
            rw [HN1.out]
            go_wp2_with fail
            first
             | (refine ⟨?_, ?measure⟩; iterate 220 (try apply Exists.intro); refine ⟨?rel, rfl⟩)
             | refine ⟨?rel, ?measure⟩
            case rel => exact ⟨j + 1, n2, S1, T, d1, Z, xs, by have := HJ6.out; omega, rfl, HN2.out, by first | rfl | rw [e5], HS1.out, HOK2.out.mono (by omega) (by omega), HD1.out, HSX.out, H⟩
            case measure => have := HJ6.out; (try rw [e5]); simp [intOf]; omega
        · by_cases h7 : (7 : Int) ≤ k
          · by_cases h9 : k ≤ (9 : Int)
            · obtain ⟨S1, hS1⟩ : ∃ S1, S1 = S.tick n2 := ⟨_, rfl⟩
              obtain ⟨T1, hT1⟩ : ∃ T1, T1 = T.tick n2 := ⟨_, rfl⟩
              obtain ⟨TO, hTO⟩ : ∃ TO, TO = S.tickO n2 := ⟨_, rfl⟩
              obtain ⟨d1, hd1, hd2⟩ := NodeD.tick_wd T d n2
              have HS1 := Lib.hid (show S1.ok (j + 1) (64 * (j + 1)) by rw [hS1]; exact (NodeD.tick_ok HOK.out n2).mono (by omega) (by omega))
              have HT1 := Lib.hid (show T1.ok (j + 1) (64 * (j + 1)) by rw [hT1]; exact (NodeD.tick_ok HOK2.out n2).mono (by omega) (by omega))
              have HD1 := Lib.hid (show S1 = T1.wd d1 by rw [hS1, hT1, HD.out, hd1])
              have hTO2 : TO = T.tickO n2 := by rw [hTO, HD.out, hd2]
              have HN1 := Lib.hid (show S1.hp.length = T1.hp.length by rw [HD1.out]; rfl)
              have HLEN := Lib.hid (show ∀ y ∈ TO, y.2.length = 614 by rw [hTO]; exact NodeD.tickO_len S n2)
              have HTL := Lib.hid (show TO.length ≤ 64 by
               have := HOK.out.len; have := HOK.out.room
               rw [hTO]
               exact Nat.le_trans (NodeD.tickO_le S n2) (by omega))
              have HTK := Lib.hid (fun (F : List SP) (w : World) (H : At w0 (nodeo p mb S :: F) w) => ntick_c H HOK.out (by have := HJ6.out; omega) HN2.out)
              rw [← hS1, ← hTO] at HTK
              have HTK2 := Lib.hid (fun (F : List SP) (w : World) (H : At w0 (nodeo p2 mb2 T :: F) w) => ntick_c H HOK2.out (by have := HJ6.out; omega) HN2.out)
              rw [← hT1, ← hTO2] at HTK2
              clear hS1 hT1 hTO hTO2 hd1 hd2 hk0
              go_wp2_with ((with_reducible refine wpList_op rfl ?_); intro _ hK; (refine dst_is 97 rfl ?_; refine wp_get 3 _ rfl rfl (by kernel_rfl) (at_raw H 1 rfl (j := 0) hc0.out) (hK _ _ (Stop.go ?_))))
              refine Stop.un ?_
              go_wp2_with ((refine wpList_opif (by rfl) ?_); intro _ hK; (refine dst_is 101 rfl ?_; refine wp_get 3 _ rfl rfl (by kernel_rfl) (at_raw H 1 rfl (j := 0) hc0.out) (hK _ _ (Stop.go ?_))))
              refine Stop.un ?_
              go_wp2_with fail
              refine (HTK.out _ _ (H.pull 2 rfl)).mono ?_; rintro e w' ⟨v1, rfl, H⟩
              obtain ⟨N, hN⟩ : ∃ N, N = TO.length := ⟨_, rfl⟩
              obtain ⟨a1, q1, rfl⟩ := out_slice H
              rw [← hN] at H ⊢
              go_wp2_with fail
              refine (HTK2.out _ _ (H.pull 4 rfl)).mono ?_; rintro e w' ⟨v2, rfl, H⟩
              obtain ⟨a2, q2, rfl⟩ := out_slice H
              rw [← hN] at H ⊢
              obtain ⟨xs2, hf2, H⟩ := out_open H
              obtain ⟨xs1, hf1, H⟩ := out_open (H.pull 3 rfl)
              have hn1 : N = xs1.length := by rw [hN, hf1.len]
              have hn2 : N = xs2.length := by rw [hN, hf2.len]
              replace H : At w0 (lrow 66 2 outC (.slice a1 N q1) xs1 :: bag (List.zipWith outRow xs1 TO) :: lrow 66 2 outC (.slice a2 N q2) xs2 :: bag (List.zipWith outRow xs2 TO) :: bag Z :: nodeo p mb S1 :: nodeo p2 mb2 T1 :: F) w' := (((((((((H).pull 7 rfl).pull 5 rfl).pull 6 rfl).pull 7 rfl).pull 7 rfl).pull 7 rfl).pull 7 rfl).pull 7 rfl).maskR [true, true, true, true, true, true, true, false]
              have HNL := Lib.hid hN
              have HN1x := Lib.hid hn1
              have HN2x := Lib.hid hn2
              have HF1 := Lib.hid hf1
              have HF2 := Lib.hid hf2
              clear hN hn1 hn2 hf1 hf2
              go_wp2_with fail
              go_loopw [19] (fun i wr => ∃ n : Nat, n ≤ N ∧ i = .int .i64 n ∧ At w0 (lrow 66 2 outC (.slice a1 N q1) xs1 :: bag (List.zipWith outRow xs1 TO) :: lrow 66 2 outC (.slice a2 N q2) xs2 :: bag (List.zipWith outRow xs2 TO) :: bag Z :: nodeo p mb S1 :: nodeo p2 mb2 T1 :: F) wr) (fun i _ => N - (intOf i).toNat)
              case atStart => exact ⟨0, by omega, rfl, H⟩
              case round =>
               clear H
               obtain ⟨n, hn, rfl, H⟩ := hrel
               by_cases g3 : (n : Int) < (N : Int)
               · obtain ⟨y, hy⟩ : ∃ y, TO[n]? = some y := ⟨_, List.getElem?_eq_getElem (by rw [← HNL.out]; omega)⟩
                 obtain ⟨x1, hx1, hx1a, hx1b⟩ := out_get HF1.out hy
                 obtain ⟨x2, hx2, hx2a, hx2b⟩ := out_get HF2.out hy
                 have hs1 := see_out hx1 hy hx1b (H.pull 1 rfl)
                 have hs2 := see_out hx2 hy hx2b (H.pull 3 rfl)
                 obtain ⟨g1a, o1, rfl⟩ := lrow_place_n HN1x.out H 0 rfl (by omega)
                 obtain ⟨g2a, o2, rfl⟩ := lrow_place_n HN2x.out H 2 rfl (by omega)
                 have hylen := HLEN.out y (List.mem_of_getElem? hy)
                 obtain ⟨c1a, c1q, e1s, _, hp1⟩ := hs1.slice
                 obtain ⟨c2a, c2q, e2s, _, hp2⟩ := hs2.slice
                 obtain ⟨c1b, c1o, rfl⟩ := hp1 (by omega)
                 obtain ⟨c2b, c2o, rfl⟩ := hp2 (by omega)
                 obtain ⟨yb, hyb⟩ : ∃ yb, yb = y.2 := ⟨_, rfl⟩
                 obtain ⟨ylen, hylN⟩ : ∃ ylen, ylen = y.2.length := ⟨_, rfl⟩
                 rw [e1s, ← hylN, ← hyb] at hs1
                 rw [e2s, ← hylN, ← hyb] at hs2
                 have hc1n : (outC x1)[0]? = some (.int .u16 (y.1 : Int)) := by rw [← hx1a]; rfl
                 have hc2n : (outC x2)[0]? = some (.int .u16 (y.1 : Int)) := by rw [← hx2a]; rfl
                 have hc1b : (outC x1)[1]? = some (.slice (some ⟨c1b, c1o, none⟩) ylen c1q) := by rw [hylN, ← e1s]; rfl
                 have hc2b : (outC x2)[1]? = some (.slice (some ⟨c2b, c2o, none⟩) ylen c2q) := by rw [hylN, ← e2s]; rfl
                 have HS1a := Lib.hid hs1
                 have HS2a := Lib.hid hs2
                 have HA1 := Lib.hid (fun (F : List SP) (w : World) (hw : At w0 (lrow 66 2 outC (.slice (some ⟨g1a, o1, none⟩) N q1) xs1 :: F) w) => lrow_cell_n el_out HN1x.out hw 0 rfl hx1 hc1n)
                 have HB1 := Lib.hid (fun (F : List SP) (w : World) (hw : At w0 (lrow 66 2 outC (.slice (some ⟨g1a, o1, none⟩) N q1) xs1 :: F) w) => lrow_cell_n el_out HN1x.out hw 0 rfl hx1 hc1b)
                 have HA2 := Lib.hid (fun (F : List SP) (w : World) (hw : At w0 (lrow 66 2 outC (.slice (some ⟨g2a, o2, none⟩) N q2) xs2 :: F) w) => lrow_cell_n el_out HN2x.out hw 0 rfl hx2 hc2n)
                 have HB2 := Lib.hid (fun (F : List SP) (w : World) (hw : At w0 (lrow 66 2 outC (.slice (some ⟨g2a, o2, none⟩) N q2) xs2 :: F) w) => lrow_cell_n el_out HN2x.out hw 0 rfl hx2 hc2b)
                 have e9 : IntKind.i64.wrap ((n : Int) + 1) = ((n + 1 : Nat) : Int) := by have := HNL.out; have := HTL.out; rw [IntKind.wrap_i64]; omega
                 have HN9 := Lib.hid (show n < N by omega)
                 clear hy hx1 hx1a hx1b hx2 hx2a hx2b hs1 hs2 hylen e1s e2s hp1 hp2 hyb hylN hc1n hc2n hc1b hc2b hn
                 go_wp2_with fail
                 refine wpS_begin [] (lrow 66 2 outC (.slice (some ⟨g1a, o1, none⟩) N q1) xs1 :: bag (List.zipWith outRow xs1 TO) :: lrow 66 2 outC (.slice (some ⟨g2a, o2, none⟩) N q2) xs2 :: bag (List.zipWith outRow xs2 TO) :: [bag Z, nodeo p mb S1, nodeo p2 mb2 T1] ++ F) (.fr 0 (.fr 1 (.fr 2 (.fr 3 (.tk 4 (.fr 5 (.fr 6 (.fr 7 (.fr 8 (.tk 9 (.fr 10 (.fr 11 (.fr 12 (.fr 13 (.fr 14 (.fr 15 (.tk 16 (.tk 17 (.fr 18 (.fr 19 (.fr 20 (.fr 21 (.tk 22 (.tk 23 (.fr 24 (.fr 25 .nil)))))))))))))))))))))))))) rfl (by kernel_rfl) (by kernel_rfl) H ?_
                 clear H
                 intro ops hOps
                 iterate 4 refine fs hOps ?_
                 refine ts hOps (fun w hw => HA1.out _ _ hw) ?_
                 iterate 4 refine fs hOps ?_
                 refine ts hOps (fun w hw => HA2.out _ _ (hw.pull 2 rfl)) ?_
                 iterate 6 refine fs hOps ?_
                 refine ts hOps (fun w hw => HB1.out _ _ hw) ?_
                 refine wpS_take hOps rfl (fun _ _ _ h => h) pk (GY.of_yields (yl rfl (fun w hw => exec_str_of (bs := yb) rfl under_bytesT under_u8T under_strT rfl hw (HS1a.out.weak (sub_at [_] _))))) ?_
                 simp only [nrm]
                 iterate 4 refine fs hOps ?_
                 refine ts hOps (fun w hw => HB2.out _ _ (hw.pull 2 rfl)) ?_
                 refine wpS_take hOps rfl (fun _ _ _ h => h) pk (GY.of_yields (yl rfl (fun w hw => exec_str_of (bs := yb) rfl under_bytesT under_u8T under_strT rfl hw (HS2a.out.weak (sub_at [_, _, _] _))))) ?_
                 simp only [nrm]
                 refine wpS_free hOps rfl (fun _ _ _ h => h) (yl rfl (fun w _ => exec_sneq_f (u := yb) (v := yb) rfl rfl rfl rfl w)) ?_
                 simp only [nrm]
                 refine fs hOps ?_
                 refine wpS_end (fun w H => ?_)
                 clear hOps ops
                 go_wp2_with fail
                 first
                  | (refine ⟨?_, ?measure⟩; iterate 220 (try apply Exists.intro); refine ⟨?rel, rfl⟩)
                  | refine ⟨?rel, ?measure⟩
                 case rel => exact ⟨n + 1, by have := HN9.out; omega, by first | rfl | rw [e9], H⟩
                 case measure => have := HN9.out; (try rw [e9]); simp [intOf]; omega
               · replace H : At w0 (bag Z :: nodeo p mb S1 :: nodeo p2 mb2 T1 :: F) _ := H.maskR [false, false, false, false]
                 go_wp2_with fail
                 refine (nlen_c (H.pull 1 rfl)).mono ?_; rintro e w' ⟨rfl, rfl⟩
                 go_wp2_with fail
                 refine (nlen_c (H.pull 2 rfl)).mono ?_; rintro e w' ⟨rfl, rfl⟩
                 rw [HN1.out]
                 go_wp2_with fail
                 first
                  | (refine ⟨?_, ?measure⟩; iterate 220 (try apply Exists.intro); refine ⟨?rel, rfl⟩)
                  | refine ⟨?rel, ?measure⟩
                 case rel => exact ⟨j + 1, n2, S1, T1, d1, Z, ls, by have := HJ6.out; omega, rfl, HN2.out, by first | rfl | rw [e5], HS1.out, HT1.out, HD1.out, HSL.out, H⟩
                 case measure => have := HJ6.out; (try rw [e5]); simp [intOf]; omega
            · go_wp2_with ((with_reducible refine wpList_op rfl ?_); intro _ hK; (refine dst_is 97 rfl ?_; refine wp_get 3 _ rfl rfl (by kernel_rfl) (at_raw H 1 rfl (j := 0) hc0.out) (hK _ _ (Stop.go ?_))))
              refine Stop.un ?_
              go_wp2_with ((refine wpList_opif (by rfl) ?_); intro _ hK; (refine dst_is 101 rfl ?_; refine wp_get 3 _ rfl rfl (by kernel_rfl) (at_raw H 1 rfl (j := 0) hc0.out) (hK _ _ (Stop.go ?_))))
              refine Stop.un ?_
              have HN1 := Lib.hid (show S.hp.length = T.hp.length by rw [HD.out]; rfl)
              replace H : At w0 (bag Z :: nodeo p mb S :: nodeo p2 mb2 T :: F) w' := H.maskR [true, false]
              go_wp2_with fail
              refine (nlen_c (H.pull 1 rfl)).mono ?_; rintro e w' ⟨rfl, rfl⟩
              go_wp2_with fail
              refine (nlen_c (H.pull 2 rfl)).mono ?_; rintro e w' ⟨rfl, rfl⟩
              rw [HN1.out]
              go_wp2_with fail
              first
               | (refine ⟨?_, ?measure⟩; iterate 220 (try apply Exists.intro); refine ⟨?rel, rfl⟩)
               | refine ⟨?rel, ?measure⟩
              case rel => exact ⟨j + 1, n2, S, T, d, Z, ls, by have := HJ6.out; omega, rfl, HN2.out, by first | rfl | rw [e5], HOK.out.mono (by omega) (by omega), HOK2.out.mono (by omega) (by omega), HD.out, HSL.out, H⟩
              case measure => have := HJ6.out; (try rw [e5]); simp [intOf]; omega
          · go_wp2_with ((with_reducible refine wpList_op rfl ?_); intro _ hK; (refine dst_is 97 rfl ?_; refine wp_get 3 _ rfl rfl (by kernel_rfl) (at_raw H 1 rfl (j := 0) hc0.out) (hK _ _ (Stop.go ?_))))
            refine Stop.un ?_
            have HN1 := Lib.hid (show S.hp.length = T.hp.length by rw [HD.out]; rfl)
            replace H : At w0 (bag Z :: nodeo p mb S :: nodeo p2 mb2 T :: F) w' := H.maskR [true, false]
            go_wp2_with fail
            refine (nlen_c (H.pull 1 rfl)).mono ?_; rintro e w' ⟨rfl, rfl⟩
            go_wp2_with fail
            refine (nlen_c (H.pull 2 rfl)).mono ?_; rintro e w' ⟨rfl, rfl⟩
            rw [HN1.out]
            go_wp2_with fail
            first
             | (refine ⟨?_, ?measure⟩; iterate 220 (try apply Exists.intro); refine ⟨?rel, rfl⟩)
             | refine ⟨?rel, ?measure⟩
            case rel => exact ⟨j + 1, n2, S, T, d, Z, ls, by have := HJ6.out; omega, rfl, HN2.out, by first | rfl | rw [e5], HOK.out.mono (by omega) (by omega), HOK2.out.mono (by omega) (by omega), HD.out, HSL.out, H⟩
            case measure => have := HJ6.out; (try rw [e5]); simp [intOf]; omega
    · have b1 : ¬ (j : Int) < 60 := g2
      go_wp2_with fail
      go_ret
      exact ⟨rfl, H.maskR [false, false, false]⟩
  · go_wp2_with fail
    go_ret
    exact ⟨rfl, H.maskR [false, false, false]⟩
theorem nodeRefuses_walk {W : World} {a b c : Int} {v : Value} (G : Glob W) (hc : (Lit.int .u64 c).wf = true) (h : ∃ ops : List OpO, SeeL 15 opC W [] v ops ∧ ∀ x ∈ ops, ∃ bs, SeeB W [] x.1.b bs) :
    Calls Tryz.prog 4 #[.int .i64 a, .int .i64 b, .int .u64 c, v] W fun e w' => e = .returned (.bool true) ∧ Below W.heap.size W w' := by
 obtain ⟨z, hz, rfl⟩ := u64_nat hc
 obtain ⟨ops, h1, h2⟩ := h
 exact (nodeRefuses_c G (At.start W) h1 h2 a b hz).mono fun _ _ h => ⟨h.1, h.2.below⟩
theorem nodeRefuses_own : ownKnob Tryz.prog.godebug = none := by kernel_rfl
theorem nodeRefuses_laidout : laidOutB Tryz.prog = true := by kernel_rfl
set_option maxRecDepth 100000 in
theorem nodeRefuses_contract (H : Type) (enc : TypeId × Value → H) (W : World) (base : Nat) (args : Array Value) (ds gs : List (DataW H)) (before : List MemPlace)
    (hval : ∀ (j : Nat) t v, Tryz.f4.params[j]? = some t → args[j]? = some v → Value.okWide Tryz.prog W .any base t v)
    (hW : DataW.Whole enc Tryz.prog Tryz.f4.params.toList Rows.nodeRefusesSpec.vars false W args.toList ds gs before) (hL : laidMetH Tryz.prog Rows.nodeRefusesRow.laid W) :
    Calls Tryz.prog 4 args W fun e W' => ∃ v, e = .returned v ∧ Rows.nodeRefusesSpec.post enc Tryz.prog Tryz.f4 false true false false W args v W' := by
 have G : Glob W := glob_of_laid hL
 have hW' := hW
 obtain ⟨p, q, hA0, hV, rfl, hfz, hnd⟩ := hW
 have hA : DataW.TrodAll enc Tryz.prog W 0 (fun _ => true) true Tryz.f4.params.toList args.toList ds p := hA0
 rw [Tryz.params4] at hA hval
 obtain ⟨v0, vs0, d0, ds0, p0, q0, hargs, rfl, rfl, h0, r0⟩ := trodAll_cons hA
 obtain ⟨v1, vs1, d1, ds1, p1, q1, rfl, rfl, rfl, h1, r1⟩ := trodAll_cons r0
 obtain ⟨v2, vs2, d2, ds2, p2, q2, rfl, rfl, rfl, h2, r2⟩ := trodAll_cons r1
 obtain ⟨v3, vs3, d3, ds3, p3, q3, rfl, rfl, rfl, h3, r3⟩ := trodAll_cons r2
 obtain ⟨rfl, rfl, rfl⟩ := trodAll_nil r3
 obtain rfl : args = #[v0, v1, v2, v3] := by cases args; simp_all
 obtain ⟨rfl, rfl⟩ := trodVars_none hV
 have k0 := h0
 have lt0 : ∀ x ∈ p0, x.block < W.heap.size := by obtain ⟨m, hm⟩ := k0; exact DataW.trod_lt m _ _ _ hm
 have k1 := h1
 have lt1 : ∀ x ∈ p1, x.block < W.heap.size := by obtain ⟨m, hm⟩ := k1; exact DataW.trod_lt m _ _ _ hm
 have k2 := h2
 have lt2 : ∀ x ∈ p2, x.block < W.heap.size := by obtain ⟨m, hm⟩ := k2; exact DataW.trod_lt m _ _ _ hm
 have k3 := h3
 have lt3 : ∀ x ∈ p3, x.block < W.heap.size := by obtain ⟨m, hm⟩ := k3; exact DataW.trod_lt m _ _ _ hm
 obtain ⟨a0, rfl, rfl, rfl, f0⟩ := open_int Tryz.underlying3 (hval 0 3 v0 rfl rfl) h0
 obtain ⟨a1, rfl, rfl, rfl, f1⟩ := open_int Tryz.underlying3 (hval 1 3 v1 rfl rfl) h1
 obtain ⟨a2, rfl, rfl, rfl, f2⟩ := open_int Tryz.underlying22 (hval 2 22 v2 rfl rfl) h2
 have f3 := open_ops (hval 3 23 v3 rfl rfl) h3
 clear hA0
 refine (nodeRefuses_walk G f2 f3).mono fun e W' ⟨he, bel⟩ => ?_
 subst he
 exact ⟨_, rfl, _, _, _, [], _, [], hW', trodAll_mk1 (shut_bool Tryz.underlying4 _), (trodAll_cons_mk (Below.trod nodeRefuses_laidout (by kernel_rfl) (of_decide_eq_true (by kernel_rfl)) k0 bel lt0) (trodAll_cons_mk (Below.trod nodeRefuses_laidout (by kernel_rfl) (of_decide_eq_true (by kernel_rfl)) k1 bel lt1) (trodAll_cons_mk (Below.trod nodeRefuses_laidout (by kernel_rfl) (of_decide_eq_true (by kernel_rfl)) k2 bel lt2) (trodAll_cons_mk (Below.trod nodeRefuses_laidout (by kernel_rfl) (of_decide_eq_true (by kernel_rfl)) k3 bel lt3) trodAll_mk0)))), rfl, bel.frame _, fun h => by cases h⟩
noncomputable def nodeRefuses_wit : Array Value := #[.int .i64 0, .int .i64 0, .int .u64 0, .slice none 0 0]
theorem nodeRefuses_met (os : Os) : laidMet Tryz.prog Rows.nodeRefusesRow.laid ((laidWorld os).forCall (fun _ _ => 0) ⟨#[], nodeRefuses_wit, []⟩).memory := laidMet_of_run' 8 (by kernel_rfl) (by kernel_rfl)
set_option maxRecDepth 100000 in
theorem nodeRefuses_lifted (os : Os) (started : os.Started) (H : Type) (enc : TypeId × Value → H) (F : Stop.Interp) :
    ReturnsInHanded {} Tryz.checked os 4 .any ((OpenSpec.ofChange Rows.nodeRefusesSpec).preRow enc Tryz.prog Tryz.f4 Rows.nodeRefusesRow.domain false Rows.nodeRefusesRow.laid) (((OpenSpec.ofChange Rows.nodeRefusesSpec).at F).post enc Tryz.prog Tryz.f4 false true false false) := by
 obtain ⟨x, hx⟩ := Option.isSome_iff_exists.1 (show (DataW.whole enc Tryz.prog ((laidWorld os).forCall (fun _ _ => 0) ⟨#[], nodeRefuses_wit, []⟩).memory Tryz.f4.params.toList Rows.nodeRefusesSpec.vars false nodeRefuses_wit.toList 8).isSome = true by kernel_rfl)
 refine returnsInHanded_of_row (C := Tryz.checked) (s := OpenSpec.ofChange Rows.nodeRefusesSpec) nodeRefuses_own started (by kernel_rfl) Tryz.func4
  (witness_row_at (enc := enc) (C := Tryz.checked) false (laidWorld os) nodeRefuses_wit rfl (by kernel_rfl) (by kernel_rfl) (by kernel_rfl)
   (OpenSpec.preRow_of_cond 8 hx (by kernel_rfl) (fun k hk => by cases hk) (by kernel_rfl) (nodeRefuses_met os))) ?_
 intro W base args ds gs before hval hW _ _ _ hL _ _
 exact nodeRefuses_contract H enc W base args ds gs before hval hW hL
theorem nodeRefuses_said : Rows.NodeRefusesSaid :=
 OpenClaim.holds_of_cond 4 Tryz.f4 rfl rfl rfl rfl rfl rfl rfl ⟨rfl, rfl, rfl, rfl, rfl⟩ rfl rfl rfl rfl rfl (by kernel_rfl) Tryz.func4 (by kernel_rfl)
  (of_decide_eq_true (by kernel_rfl)) (by unfold Func.isWrapper; first | (rw [if_pos (by decide +kernel)]; kernel_rfl) | (rw [if_neg (by decide +kernel)]; exact ⟨rfl, rfl⟩))
  (fun os started H enc _ F => by rw [OpenClaim.pre_eq_preRow]; exact nodeRefuses_lifted os started H enc F)
theorem nodeRefuses_plain (f : FuncId) (fn : Func) (hf : Tryz.pinned.checked.prog.funcNamed "hourglass/hourglasslaw17.NodeRefuses" = some f) (hfn : Tryz.pinned.checked.prog.funcs[f]? = some fn) :
    false = Tryz.pinned.checked.prog.looks [] ∧ ∀ (j : Nat) t, fn.params[j]? = some t → Tryz.pinned.checked.prog.wantsStandIn t = false := by
 obtain rfl : f = 4 := Option.some.inj ((show Tryz.prog.funcNamed "hourglass/hourglasslaw17.NodeRefuses" = some 4 by kernel_rfl).symm.trans hf) |>.symm
 obtain rfl : fn = Tryz.f4 := (Option.some.inj (Tryz.func4.symm.trans hfn)).symm
 refine ⟨by kernel_rfl, fun j t ht => ?_⟩
 have hall : ∀ t ∈ Tryz.f4.params, Tryz.prog.wantsStandIn t = false := by
  have h : (Tryz.f4.params.toList.all fun t => !Tryz.prog.wantsStandIn t) = true := by kernel_rfl
  intro t ht
  simpa using List.all_eq_true.1 h t (Array.mem_toList_iff.2 ht)
 exact hall t (Array.mem_of_getElem? ht)
theorem nodeRefuses_holds : Rows.NodeRefusesCardSaid :=
 Claim7.holds_tied_plain_at .later [] _ _ _ _ nodeRefuses_said (fun _ h => by cases h) (by kernel_rfl) (fun _ h => by cases h) nodeRefuses_row_tie rfl ⟨rfl, rfl⟩ (by kernel_rfl) rfl nodeRefuses_plain (by kernel_rfl)
#print axioms nodeRefuses_holds
end Go.Proofs.YtmflbekabkainaaGreatDoor
