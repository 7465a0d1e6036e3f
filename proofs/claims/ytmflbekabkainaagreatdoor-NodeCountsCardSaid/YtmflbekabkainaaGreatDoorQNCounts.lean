import Derived.Test.YtmflbekabkainaaGreatDoorQNOpz
import Derived.Test.YtmflbekabkainaaGreatDoorQNFew
set_option linter.unusedVariables false
set_option linter.unusedSimpArgs false
namespace Go.Proofs.YtmflbekabkainaaGreatDoor
open Go.ChangeShapes Go.WideShapes Go.ChangeAt Go.RowKit Go.Hg
theorem drops_get {l : List Nat} {i : Nat} (h : i < l.length) : (dropsC l)[i]? = some (.int .i64 ((l.getD i 0 : Nat) : Int)) := by
 rw [drops_at (d := l.getD i 0)]
 rw [List.getD_eq_getElem?_getD, List.getElem?_eq_getElem h]
 rfl
theorem sum_take {l : List Nat} {n : Nat} (h : n < l.length) : (l.take (n + 1)).sum = (l.take n).sum + l.getD n 0 := by
 rw [List.take_add_one, List.sum_append, List.getD_eq_getElem?_getD, List.getElem?_eq_getElem h]
 simp
theorem sum_take_le : ∀ (l : List Nat) (n : Nat), (l.take n).sum ≤ l.sum
 | [], n => by simp
 | a :: l, 0 => by simp
 | a :: l, n + 1 => by have := sum_take_le l n; simp; omega
theorem boxes_three {T : NodeD} (h : T.mail.length = 3) : T.boxesN = (T.mail.getD 0 []).length + (T.mail.getD 1 []).length + (T.mail.getD 2 []).length := by
 unfold NodeD.boxesN
 match hm : T.mail, h with
 | [a, b, c], _ => simp; omega
set_option maxRecDepth 20000 in
set_option maxHeartbeats 4000000 in
theorem nodeCounts_c {w0 w : World} {F : List SP} (G : Glob w0) (H : At w0 F w) {v : Value} {ops : List OpO} (hv : SeeL 15 opC w0 [] v ops) (hbs : ∀ x ∈ ops, ∃ bs, SeeB w0 [] x.1.b bs) (room tags : Int) {nw : Nat} (hnw : nw < 18446744073709551616) :
    Calls Tryz.prog 5 #[.int .i64 room, .int .i64 tags, .int .u64 (nw : Int), v] w fun e w' => e = .returned (.bool true) ∧ At w0 F w' := by
 obtain ⟨a, q, rfl, hcap, hsome⟩ := hv.slice
 obtain ⟨m, hm⟩ : ∃ m, m = ops.length := ⟨_, rfl⟩
 rw [← hm] at hv hcap hsome ⊢
 have HSOME := Lib.hid hsome
 have HM := Lib.hid hm
 have HV := Lib.hid hv
 have HBS := Lib.hid hbs
 have HNW0 := Lib.hid hnw
 obtain ⟨s0, hs0⟩ : ∃ s, s = NodeD.fresh 1 room tags 3 := ⟨_, rfl⟩
 have HS0 := Lib.hid (show NodeD.fresh 1 room tags 3 = s0 from hs0.symm)
 have HOK0 := Lib.hid (show s0.ok 0 0 by rw [hs0]; exact NodeD.fresh_ok (by omega) room tags 3)
 have HC0 := Lib.hid (show s0.cnt 3 ∧ s0.tot = 0 by rw [hs0]; exact ⟨NodeD.cnt_fresh 1 room tags 3, NodeD.tot_fresh 1 room tags 3⟩)
 clear hs0 hv hm hsome hcap hbs hnw
 go_enter Tryz.func5, Tryz.ntmps5
 go_wp2_with fail
 refine (lshown_c G H).mono ?_; rintro e w' ⟨rfl, H⟩
 go_wp2_with fail
 refine (nnew_c H (addr := 1) (by omega) room tags 3).mono ?_; rintro e w' ⟨p, mb, rfl, H⟩
 rw [HS0.out] at H
 go_wp2_with fail
 refine (nmail_c H).mono ?_; rintro e w' ⟨rfl, rfl⟩
 replace H := H.bag_nil
 go_wp2_with fail
 go_loopw [2, 11, 12, 13, 14, 15] (fun nv l tk ot rf i wr => ∃ (j nw tkn otn rfn : Nat) (S : NodeD) (Y : List SP) (ls : Bytes), j ≤ 60 ∧ nv = .int .u64 (nw : Int) ∧ nw < 18446744073709551616 ∧ tk = .int .i64 tkn ∧ ot = .int .i64 otn ∧ rf = .int .i64 rfn ∧ i = .int .i64 j ∧ S.ok j (64 * j) ∧ S.cnt 3 ∧ tkn + rfn = otn + S.tot ∧ tkn ≤ j ∧ rfn ≤ j ∧ SeeB w0 [bag Y] l ls ∧ At w0 (bag Y :: nodeo p mb S :: F) wr) (fun _ _ _ _ _ i _ => 60 - (intOf i).toNat)
 case atStart => exact ⟨0, nw, 0, 0, 0, s0, [], [], by omega, rfl, HNW0.out, rfl, rfl, rfl, rfl, HOK0.out, HC0.out.1, by rw [HC0.out.2], by omega, by omega, see_nil _ _ _ _, H⟩
 case round =>
  clear H HNW0 nw
  obtain ⟨j, nw, tkn, otn, rfn, S, Y, ls, hj, rfl, hnw, rfl, rfl, rfl, rfl, hok, hcnt, htot, htk, hrf, hsl, H⟩ := hrel
  have HJ := Lib.hid hj
  have HNW := Lib.hid hnw
  have HOK := Lib.hid hok
  have HC := Lib.hid hcnt
  have HT := Lib.hid (And.intro htot (And.intro htk hrf))
  have HSL := Lib.hid hsl
  clear hj hnw hok hcnt htot htk hrf hsl
  by_cases g1 : (j : Int) < m
  · by_cases g2 : (j : Int) < 60
    · have HJ6 := Lib.hid (show j < 60 by omega)
      obtain ⟨b, off, rfl⟩ := HSOME.out (by omega)
      obtain ⟨x, hx⟩ : ∃ x, ops[j]? = some x := ⟨_, List.getElem?_eq_getElem (by rw [← HM.out]; omega)⟩
      obtain ⟨bs, hbs⟩ := HBS.out x (List.mem_of_getElem? hx)
      have HR := Lib.hid (fun (L : List SP) (w : World) (hw : At w0 L w) => (HV.out.weak (List.nil_sublist L)).elem el_op hw hx)
      obtain ⟨o, ho⟩ := x
      have HO := Lib.hid ho
      have HB := Lib.hid (show SeeB w0 [] o.b bs from hbs)
      replace HR := Lib.hid (show ∀ (L : List SP) (w : World), At w0 L w → w.rangeAt b (off + j * 15) o.cells from HR.out)
      obtain ⟨k, hk⟩ : ∃ k, k = o.kind := ⟨_, rfl⟩
      have hc0 := Lib.hid (show o.cells[0]? = some (.int .i64 k) by rw [hk]; rfl)
      have hc1 := Lib.hid (show o.cells[1]? = some (.int .u16 (o.by_ : Int)) from rfl)
      have hc2 := Lib.hid (show o.cells[2]? = some (.int .u16 (o.who : Int)) from rfl)
      have hc3 := Lib.hid (show o.cells[3]? = some (.int .u8 (o.key : Int)) from rfl)
      obtain ⟨by1, hby⟩ : ∃ by1, by1 = o.by_ := ⟨_, rfl⟩
      rw [← hby] at hc1
      obtain ⟨rr, hrr⟩ : ∃ rr : Nat, rr = 18446744073709551615 - nw := ⟨_, rfl⟩
      obtain ⟨mm, hmm⟩ : ∃ mm : Nat, mm = min by1 rr := ⟨_, rfl⟩
      obtain ⟨n2, hn2⟩ : ∃ n2 : Nat, n2 = nw + mm := ⟨_, rfl⟩
      have hby6 : by1 < 65536 := by rw [hby]; exact ho.by_
      have e1 : IntKind.u64.wrap (18446744073709551615 - (nw : Int)) = (rr : Int) := by have := HNW.out; rw [IntKind.wrap_u64]; omega
      have e2 : (if rr < by1 then (rr : Int) else (by1 : Int)) = (mm : Int) := by rw [hmm]; split <;> omega
      have e3 : IntKind.u64.wrap ((nw : Int) + (mm : Int)) = (n2 : Int) := by have := HNW.out; rw [IntKind.wrap_u64]; omega
      have e4 : IntKind.u64.wrap (by1 : Int) = (by1 : Int) := by rw [IntKind.wrap_u64]; omega
      have HN2 := Lib.hid (show n2 < 18446744073709551616 by have := HNW.out; omega)
      have HK := Lib.hid hk
      clear hx hbs ho hk hby hrr hmm hn2 hby6
      go_wp2_with ((with_reducible refine wpList_op rfl ?_); intro _ hK; first
       | (refine dst_is 46 rfl ?_; refine wp_mid 38 _ rfl (b := b) (off := off + j * 15) rfl o.cells (by kernel_rfl) (by rw [opC_length]; exact info_op) (HR.out _ _ H) (hK _ _ ?_))
       | (refine dst_is 16 rfl ?_; refine wp_alloc_sl 38 rfl info_opz H (fun O w' (H : At w0 (raw O opZ.toArray 38 :: _) w') _ => hK _ _ ?_))
       | (refine sto_is 16 rfl ?_; refine wp_store_row_sl 38 _ _ rfl (b := O) (cells := o.cells.toArray) rfl rfl (by rw [List.size_toArray, opC_length]; exact info_op) (op_one HO.out) 0 H rfl (by simp only [List.size_toArray]; rfl) (fun w' (H : At w0 (raw O o.cells.toArray 38 :: _) w') => hK _ _ (Stop.go ?_))))
      refine Stop.un ?_
      replace H := H
      go_wp2_with ((with_reducible refine wpList_op rfl ?_); intro _ hK; first
       | (refine dst_is 49 rfl ?_; refine wp_get 27 _ rfl rfl (by kernel_rfl) (at_raw H 0 rfl (j := 1) hc1.out) (hK _ _ (Stop.go ?_))))
      refine Stop.un ?_
      go_wp2_with ((with_reducible refine wpList_op rfl ?_); intro _ hK; first
       | (refine dst_is 55 rfl ?_; refine wp_mid 38 _ rfl rfl o.cells (by kernel_rfl) (by rw [opC_length]; exact info_op) (at_blk H 0 rfl) (hK _ _ (Stop.go ?_))))
      refine Stop.un ?_
      clear e1 e2 e3 e4
      go_wp2_with fail
      refine (lbytes_c (H.pull 1 rfl) HO.out HB.out HSL.out HN2.out).mono ?_; rintro e w' ⟨vx, Z, rfl, H, hsx, hsl⟩
      obtain ⟨xs, hxs⟩ : ∃ xs, xs = o.bytes bs n2 ls := ⟨_, rfl⟩
      rw [← hxs] at hsx
      obtain ⟨ax, qx, rfl, _, _⟩ := hsx.slice
      obtain ⟨L, hL⟩ : ∃ L, L = xs.length := ⟨_, rfl⟩
      rw [← hL] at hsx ⊢
      have HXS := Lib.hid hxs
      have HL := Lib.hid hL
      have HSX := Lib.hid hsx
      clear HSL
      have HSL := Lib.hid hsl
      clear hxs hL hsx hsl
      go_wp2_with ((with_reducible refine wpList_op rfl ?_); intro _ hK; first
       | (refine dst_is 61 rfl ?_; refine wp_get 3 _ rfl rfl (by kernel_rfl) (at_raw H 1 rfl (j := 0) hc0.out) (hK _ _ (Stop.go ?_))))
      refine Stop.un ?_
      have e5 : IntKind.i64.wrap ((j : Int) + 1) = ((j + 1 : Nat) : Int) := by have := HJ6.out; rw [IntKind.wrap_i64]; omega
      have e6 : IntKind.i64.wrap ((tkn : Int) + 1) = ((tkn + 1 : Nat) : Int) := by have := HJ6.out; have := HT.out; rw [IntKind.wrap_i64]; omega
      have e7 : IntKind.i64.wrap ((rfn : Int) + 1) = ((rfn + 1 : Nat) : Int) := by have := HJ6.out; have := HT.out; rw [IntKind.wrap_i64]; omega
      by_cases hk0 : k = 0
      · subst hk0
        have HCL := Lib.hid (HC.out.client o.who (keyN o.key))
        have HCO := Lib.hid (NodeD.client_ok HOK.out o.who (keyN_length o.key))
        go_wp2_with fail
        refine wpS_begin [] ([raw O o.cells.toArray 38]) (.fr 0 (.fr 1 (.tk 2 (.fr 3 (.tk 4 (.fr 5 (.nx 6 .nil))))))) rfl (by kernel_rfl) (by kernel_rfl) H ?_
        clear H
        intro ops hOps
        iterate 2 refine fs hOps ?_
        refine ts hOps (fun w hw => at_raw hw 0 rfl hc2.out) ?_
        refine fs hOps ?_
        refine ts hOps (fun w hw => at_raw hw 0 rfl hc3.out) ?_
        refine wpS_fcall hOps (v := ?vOp135) rfl (fun _ _ _ h => h) (GY.call rfl _ _ _ rfl Tryz.func16 rfl (by kernel_rfl) ?yOp135) ?_
        case yOp135 =>
         intro L w f H
         simp only [List.map_toArray, List.map_cons, List.map_nil, nrm]
         exact lkey_c H HO.out.key
        simp only [nrm]
        refine wpS_next hOps rfl rfl ?_
        intro w H K hK
        refine wp_call _ _ _ rfl Tryz.func17 rfl (by kernel_rfl) ?_
        simp only [List.map_toArray, List.map_cons, List.map_nil, nrm]
        refine (nclient_c (H.pull 2 rfl) HOK.out HO.out.who (keyN_length o.key)).mono ?_; rintro e w' ⟨rfl, H⟩
        refine hK _ _ _ (.inr (.inr pk)) H ?_
        clear hK K H
        try simp only [nrm]
        refine wpS_end (fun w H => ?_)
        clear hOps ops
        go_wp2_with fail
        first
         | (refine ⟨?_, ?measure⟩; iterate 220 (try apply Exists.intro); refine ⟨?rel, rfl⟩)
         | refine ⟨?rel, ?measure⟩
        case rel => exact ⟨j + 1, n2, tkn, otn, rfn, _, Z, ls, by have := HJ6.out; omega, rfl, HN2.out, rfl, rfl, rfl, by first | rfl | rw [e5], HCO.out.mono (by omega) (by omega), HCL.out.1, by rw [HCL.out.2]; exact HT.out.1, by have := HT.out; omega, by have := HT.out; omega, HSL.out, (H.pull 1 rfl).maskR [true, true, false]⟩
        case measure => have := HJ6.out; (try rw [e5]); simp [intOf]; omega
      · have b0 : (k == 0) = false := by simp; omega
        by_cases hL0 : (0 : Int) < (L : Int)
        · obtain ⟨E, hE⟩ : ∃ E, E = S.takeE xs n2 := ⟨_, rfl⟩
          obtain ⟨T, hT⟩ : ∃ T, T = S.take xs n2 := ⟨_, rfl⟩
          have HTC := Lib.hid (show T.cnt 3 ∧ T.tot = S.tot + 1 by rw [hT]; exact HC.out.take xs n2)
          have HTO := Lib.hid (show T.ok (j + 1) (64 * j + 1) by rw [hT]; exact NodeD.take_ok HOK.out xs n2)
          have HTK := Lib.hid (show ∀ (F : List SP) (w : World), At w0 (nodeo p mb S :: bag Z :: F) w → Calls Tryz.prog 20 #[.pointer (some ⟨p, 0, none⟩), .slice ax L qx, .int .u64 (n2 : Int)] w fun e w' => e = .returned (.int .i64 (E : Int)) ∧ At w0 (nodeo p mb T :: bag Z :: F) w' from fun F w H => by
           rw [hE, hT]
           exact nTake_c G H HOK.out (by have := HJ6.out; omega) (by have := HJ6.out; omega) (HSX.out.weak (sub_at [_] _)) HN2.out)
          clear hE hT hk0
          go_wp2_with fail
          refine (HTK.out _ _ (H.pull 2 rfl)).mono ?_; rintro e w' ⟨rfl, H⟩
          replace H : At w0 (bag Z :: nodeo p mb T :: F) w' := (H.pull 1 rfl).maskR [true, true, false]
          by_cases hE0 : E = 0
          · subst hE0
            go_wp2_with fail
            first
             | (refine ⟨?_, ?measure⟩; iterate 220 (try apply Exists.intro); refine ⟨?rel, rfl⟩)
             | refine ⟨?rel, ?measure⟩
            case rel => exact ⟨j + 1, n2, tkn + 1, otn, rfn, T, Z, xs, by have := HJ6.out; omega, rfl, HN2.out, by first | rfl | rw [e6], rfl, rfl, by first | rfl | rw [e5], HTO.out.mono (by omega) (by omega), HTC.out.1, by have := HT.out; rw [HTC.out.2]; omega, by have := HT.out; omega, by have := HT.out; omega, HSX.out, H⟩
            case measure => have := HJ6.out; (try rw [e5]); simp [intOf]; omega
          · have b1 : ((E : Int) == 0) = false := by simp; omega
            clear hE0
            go_wp2_with fail
            first
             | (refine ⟨?_, ?measure⟩; iterate 220 (try apply Exists.intro); refine ⟨?rel, rfl⟩)
             | refine ⟨?rel, ?measure⟩
            case rel => exact ⟨j + 1, n2, tkn, otn, rfn + 1, T, Z, xs, by have := HJ6.out; omega, rfl, HN2.out, rfl, rfl, by first | rfl | rw [e7], by first | rfl | rw [e5], HTO.out.mono (by omega) (by omega), HTC.out.1, by have := HT.out; rw [HTC.out.2]; omega, by have := HT.out; omega, by have := HT.out; omega, HSX.out, H⟩
            case measure => have := HJ6.out; (try rw [e5]); simp [intOf]; omega
        · by_cases h7 : (7 : Int) ≤ k
          · by_cases h9 : k ≤ (9 : Int)
            · obtain ⟨T, hT⟩ : ∃ T, T = S.tick n2 := ⟨_, rfl⟩
              obtain ⟨TO, hTO⟩ : ∃ TO, TO = S.tickO n2 := ⟨_, rfl⟩
              have htc := HC.out.tick n2
              rw [← hT, ← hTO] at htc
              have HTC := Lib.hid htc
              have HTO := Lib.hid (show T.ok j (64 * j + 64) by rw [hT]; exact NodeD.tick_ok HOK.out n2)
              have HTK := Lib.hid (fun (F : List SP) (w : World) (H : At w0 (nodeo p mb S :: F) w) => ntick_c H HOK.out (by have := HJ6.out; omega) HN2.out)
              rw [← hT, ← hTO] at HTK
              have e8 : IntKind.i64.wrap ((otn : Int) + (TO.length : Int)) = ((otn + TO.length : Nat) : Int) := by have := HJ6.out; have := HT.out; have := HTC.out.2; rw [IntKind.wrap_i64]; omega
              clear hT hTO htc hk0
              go_wp2_with ((with_reducible refine wpList_op rfl ?_); intro _ hK; (refine dst_is 86 rfl ?_; refine wp_get 3 _ rfl rfl (by kernel_rfl) (at_raw H 1 rfl (j := 0) hc0.out) (hK _ _ (Stop.go ?_))))
              refine Stop.un ?_
              go_wp2_with ((refine wpList_opif (by rfl) ?_); intro _ hK; (refine dst_is 90 rfl ?_; refine wp_get 3 _ rfl rfl (by kernel_rfl) (at_raw H 1 rfl (j := 0) hc0.out) (hK _ _ (Stop.go ?_))))
              refine Stop.un ?_
              go_wp2_with fail
              refine (HTK.out _ _ (H.pull 2 rfl)).mono ?_; rintro e w' ⟨v, rfl, H⟩
              obtain ⟨va, vq, rfl⟩ := out_slice H
              go_wp2_with fail
              first
               | (refine ⟨?_, ?measure⟩; iterate 220 (try apply Exists.intro); refine ⟨?rel, rfl⟩)
               | refine ⟨?rel, ?measure⟩
              case rel => exact ⟨j + 1, n2, tkn, otn + TO.length, rfn, T, Z, ls, by have := HJ6.out; omega, rfl, HN2.out, rfl, by first | rfl | rw [e8], rfl, by first | rfl | rw [e5], HTO.out.mono (by omega) (by omega), HTC.out.1, by have := HT.out; have := HTC.out.2; omega, by have := HT.out; omega, by have := HT.out; omega, HSL.out, ((H.pull 2 rfl).pull 2 rfl |>.pull 1 rfl).maskR [true, true, false, false]⟩
              case measure => have := HJ6.out; (try rw [e5]); simp [intOf]; omega
            · go_wp2_with ((with_reducible refine wpList_op rfl ?_); intro _ hK; (refine dst_is 86 rfl ?_; refine wp_get 3 _ rfl rfl (by kernel_rfl) (at_raw H 1 rfl (j := 0) hc0.out) (hK _ _ (Stop.go ?_))))
              refine Stop.un ?_
              go_wp2_with ((refine wpList_opif (by rfl) ?_); intro _ hK; (refine dst_is 90 rfl ?_; refine wp_get 3 _ rfl rfl (by kernel_rfl) (at_raw H 1 rfl (j := 0) hc0.out) (hK _ _ (Stop.go ?_))))
              refine Stop.un ?_
              go_wp2_with fail
              first
               | (refine ⟨?_, ?measure⟩; iterate 220 (try apply Exists.intro); refine ⟨?rel, rfl⟩)
               | refine ⟨?rel, ?measure⟩
              case rel => exact ⟨j + 1, n2, tkn, otn, rfn, S, Z, ls, by have := HJ6.out; omega, rfl, HN2.out, rfl, rfl, rfl, by first | rfl | rw [e5], HOK.out.mono (by omega) (by omega), HC.out, HT.out.1, by have := HT.out; omega, by have := HT.out; omega, HSL.out, H.maskR [true, false, true]⟩
              case measure => have := HJ6.out; (try rw [e5]); simp [intOf]; omega
          · go_wp2_with ((with_reducible refine wpList_op rfl ?_); intro _ hK; (refine dst_is 86 rfl ?_; refine wp_get 3 _ rfl rfl (by kernel_rfl) (at_raw H 1 rfl (j := 0) hc0.out) (hK _ _ (Stop.go ?_))))
            refine Stop.un ?_
            go_wp2_with fail
            first
             | (refine ⟨?_, ?measure⟩; iterate 220 (try apply Exists.intro); refine ⟨?rel, rfl⟩)
             | refine ⟨?rel, ?measure⟩
            case rel => exact ⟨j + 1, n2, tkn, otn, rfn, S, Z, ls, by have := HJ6.out; omega, rfl, HN2.out, rfl, rfl, rfl, by first | rfl | rw [e5], HOK.out.mono (by omega) (by omega), HC.out, HT.out.1, by have := HT.out; omega, by have := HT.out; omega, HSL.out, H.maskR [true, false, true]⟩
            case measure => have := HJ6.out; (try rw [e5]); simp [intOf]; omega
    · obtain ⟨T, hT⟩ : ∃ T, T = S.tick 18446744073709551615 := ⟨_, rfl⟩
      obtain ⟨TO, hTO⟩ : ∃ TO, TO = S.tickO 18446744073709551615 := ⟨_, rfl⟩
      have htc := HC.out.tick 18446744073709551615
      have hhp : T.hp = [] := by rw [hT]; exact NodeD.tick_all fun t ht => by have := (HOK.out.ticks t ht).2; omega
      rw [← hT, ← hTO] at htc
      have HTC := Lib.hid htc
      have HHP := Lib.hid hhp
      have hj60 : j ≤ 60 := HJ.out
      have HTO := Lib.hid (show T.ok j (64 * j + 64) by rw [hT]; exact NodeD.tick_ok HOK.out _)
      have HTK := Lib.hid (fun (F : List SP) (w : World) (H : At w0 (nodeo p mb S :: F) w) => ntick_c H HOK.out (by omega) (now := 18446744073709551615) (by omega))
      rw [← hT, ← hTO] at HTK
      obtain ⟨sn, hsn⟩ : ∃ sn, sn = otn + TO.length := ⟨_, rfl⟩
      have e8 : IntKind.i64.wrap ((otn : Int) + (TO.length : Int)) = (sn : Int) := by have := HT.out; have := HTC.out.2; rw [IntKind.wrap_i64]; omega
      have HSN := Lib.hid hsn
      clear hT hTO htc hhp hj60 hsn
      go_wp2_with fail
      refine (HTK.out _ _ (H.pull 1 rfl)).mono ?_; rintro e w' ⟨v, rfl, H⟩
      obtain ⟨va, vq, rfl⟩ := out_slice H
      replace H := H.tail
      have hdl := Lib.hid HTC.out.1.len
      have hdl2 := Lib.hid (show (dropsC T.drops).length = 13 by rw [drops_len, hdl.out])
      obtain ⟨d0, hd0⟩ : ∃ d0, d0 = T.drops.getD 0 0 := ⟨_, rfl⟩
      have HD0 := Lib.hid (show d0 = 0 by rw [hd0]; exact HTC.out.1.none)
      have hdc0 := Lib.hid (show (dropsC T.drops)[0]? = some (.int .i64 (d0 : Int)) by rw [hd0]; exact drops_get (by rw [hdl.out]; omega))
      obtain ⟨x0, hx0⟩ : ∃ x, x = (T.mail.getD 0 []).length := ⟨_, rfl⟩
      obtain ⟨x1, hx1⟩ : ∃ x, x = (T.mail.getD 1 []).length := ⟨_, rfl⟩
      obtain ⟨x2, hx2⟩ : ∃ x, x = (T.mail.getD 2 []).length := ⟨_, rfl⟩
      have HX := Lib.hid (show T.boxesN = x0 + x1 + x2 by rw [hx0, hx1, hx2]; exact boxes_three HTC.out.1.mail)
      have HX0 := Lib.hid hx0
      have HX1 := Lib.hid hx1
      have HX2 := Lib.hid hx2
      have HALL := Lib.hid (show otn + TO.length + (x0 + x1 + x2) + T.drops.sum = tkn + rfn by
       have h1 := HTC.out.2
       have h2 := HT.out.1
       unfold NodeD.tot at h1 h2
       rw [HHP.out, HX.out] at h1
       unfold NodeD.dropsN at h1 h2
       rw [List.length_nil] at h1
       omega)
      clear hd0 hx0 hx1 hx2
      go_wp2_with fail
      refine (ndrops_c H hdl.out).mono ?_; rintro e w' ⟨rfl, H⟩
      go_wp2_with ((with_reducible refine wpList_op rfl ?_); intro _ hK; first
       | (refine dst_is 19 rfl ?_; refine wp_alloc_sl 47 rfl info_a13 H (fun X w' (H : At w0 (raw X (dropsC (List.replicate 13 0)).toArray 47 :: _) w') _ => hK _ _ ?_))
       | (refine sto_is 19 rfl ?_; refine wp_store_row_sl 47 _ _ rfl (cells := (dropsC T.drops).toArray) rfl rfl (by rw [List.size_toArray, hdl2.out]; exact size_a13) (by simpa using drops_one T.drops) 0 H rfl (by rw [List.size_toArray, List.size_toArray, hdl2.out]; rfl) (fun w' (H : At w0 (raw X (dropsC T.drops).toArray 47 :: nodeo p mb T :: bag Y :: F) w') => hK _ _ (Stop.go ?_))))
      refine Stop.un ?_
      go_wp2_with fail
      go_loopw [18, 20] (fun dr i wr => ∃ n : Nat, n ≤ 13 ∧ i = .int .i64 n ∧ dr = .int .i64 ((T.drops.take n).sum : Nat) ∧ At w0 (raw X (dropsC T.drops).toArray 47 :: nodeo p mb T :: bag Y :: F) wr) (fun _ i _ => 13 - (intOf i).toNat)
      case atStart => exact ⟨0, by omega, rfl, rfl, H⟩
      case round =>
       clear H
       obtain ⟨n, hn, rfl, rfl, H⟩ := hrel
       by_cases g3 : (n : Int) < 13
       · obtain ⟨dn, hdn⟩ : ∃ d, d = T.drops.getD n 0 := ⟨_, rfl⟩
         have hcn := Lib.hid (show (dropsC T.drops)[n]? = some (.int .i64 (dn : Int)) by rw [hdn]; exact drops_get (by rw [hdl.out]; omega))
         obtain ⟨ds, hds⟩ : ∃ ds, ds = (T.drops.take n).sum := ⟨_, rfl⟩
         rw [← hds]
         have hds2 : ds + dn = (T.drops.take (n + 1)).sum := by rw [hds, hdn]; exact (sum_take (by rw [hdl.out]; omega)).symm
         have hle := sum_take_le T.drops (n + 1)
         have hal := HALL.out
         have htt := HT.out
         have hjj := HJ.out
         have e9 : IntKind.i64.wrap ((ds : Int) + (dn : Int)) = ((ds + dn : Nat) : Int) := by rw [IntKind.wrap_i64]; omega
         have e10 : IntKind.i64.wrap ((n : Int) + 1) = ((n + 1 : Nat) : Int) := by rw [IntKind.wrap_i64]; omega
         have HDS := Lib.hid hds2
         have HN9 := Lib.hid (show n < 13 by omega)
         clear hdn hds hds2 hle hal htt hjj hn
         go_wp2_with ((with_reducible refine wpList_op rfl ?_); intro _ hK; (refine dst_is 113 rfl ?_; refine wp_get 3 _ rfl rfl (by kernel_rfl) (at_raw H 0 rfl (j := n) hcn.out) (hK _ _ (Stop.go ?_))))
         refine Stop.un ?_
         go_wp2_with fail
         first
          | (refine ⟨?_, ?measure⟩; iterate 220 (try apply Exists.intro); refine ⟨?rel, rfl⟩)
          | refine ⟨?rel, ?measure⟩
         case rel => exact ⟨n + 1, by have := HN9.out; omega, by first | rfl | rw [e10], by first | (rw [e9, HDS.out]; done) | (rw [← HDS.out]; rfl), H⟩
         case measure => have := HN9.out; (try rw [e10]); simp [intOf]; omega
       · obtain rfl : n = 13 := by omega
         obtain ⟨ds, hds⟩ : ∃ ds, ds = (T.drops.take 13).sum := ⟨_, rfl⟩
         rw [← hds]
         have hds2 : ds = T.drops.sum := by rw [hds, List.take_of_length_le (by rw [hdl.out]; omega)]
         have hal := HALL.out
         have htt := HT.out
         have hjj := HJ.out
         rw [← hds2] at hal
         obtain ⟨y1, hy1⟩ : ∃ y, y = x0 + x1 := ⟨_, rfl⟩
         obtain ⟨y2, hy2⟩ : ∃ y, y = y1 + x2 := ⟨_, rfl⟩
         obtain ⟨y3, hy3⟩ : ∃ y, y = sn + y2 := ⟨_, rfl⟩
         obtain ⟨y4, hy4⟩ : ∃ y, y = y3 + ds := ⟨_, rfl⟩
         have hsn := HSN.out
         have e9 : IntKind.i64.wrap ((x0 : Int) + (x1 : Int)) = (y1 : Int) := by rw [IntKind.wrap_i64]; omega
         have e10 : IntKind.i64.wrap ((y1 : Int) + (x2 : Int)) = (y2 : Int) := by rw [IntKind.wrap_i64]; omega
         have e11 : IntKind.i64.wrap ((sn : Int) + (y2 : Int)) = (y3 : Int) := by rw [IntKind.wrap_i64]; omega
         have e12 : IntKind.i64.wrap ((y3 : Int) + (ds : Int)) = (y4 : Int) := by rw [IntKind.wrap_i64]; omega
         have e13 : IntKind.i64.wrap ((y4 : Int) - (rfn : Int)) = (tkn : Int) := by rw [IntKind.wrap_i64]; omega
         (try rw [e8])
         replace H := H.pull 1 rfl
         clear hds hds2 hal htt hjj hy1 hy2 hy3 hy4 hsn hn g3
         go_wp2_with fail
         refine (nmail_c H).mono ?_; rintro e w' ⟨rfl, rfl⟩
         go_wp2_with fail
         refine (mlen_c H (k := 0) (by omega)).mono ?_; rintro e w' ⟨rfl, rfl⟩
         rw [← HX0.out]
         go_wp2_with fail
         refine (nmail_c H).mono ?_; rintro e w' ⟨rfl, rfl⟩
         go_wp2_with fail
         refine (mlen_c H (k := 1) (by omega)).mono ?_; rintro e w' ⟨rfl, rfl⟩
         rw [← HX1.out]
         go_wp2_with fail
         refine (nmail_c H).mono ?_; rintro e w' ⟨rfl, rfl⟩
         go_wp2_with fail
         refine (mlen_c H (k := 2) (by omega)).mono ?_; rintro e w' ⟨rfl, rfl⟩
         rw [← HX2.out]
         go_wp2_with fail
         refine (nlen_c H).mono ?_; rintro e w' ⟨rfl, rfl⟩
         rw [HHP.out]
         obtain rfl := HD0.out
         go_wp2_with ((refine wpList_opif (by rfl) ?_); intro _ hK; (refine dst_is 145 rfl ?_; refine wp_get 3 _ rfl rfl (by kernel_rfl) (at_raw H 1 rfl (j := 0) hdc0.out) (hK _ _ (Stop.go ?_))))
         refine Stop.un ?_
         go_wp2_with fail
         go_ret
         exact ⟨rfl, H.maskR [false, false, false]⟩
  · obtain ⟨T, hT⟩ : ∃ T, T = S.tick 18446744073709551615 := ⟨_, rfl⟩
    obtain ⟨TO, hTO⟩ : ∃ TO, TO = S.tickO 18446744073709551615 := ⟨_, rfl⟩
    have htc := HC.out.tick 18446744073709551615
    have hhp : T.hp = [] := by rw [hT]; exact NodeD.tick_all fun t ht => by have := (HOK.out.ticks t ht).2; omega
    rw [← hT, ← hTO] at htc
    have HTC := Lib.hid htc
    have HHP := Lib.hid hhp
    have hj60 : j ≤ 60 := HJ.out
    have HTO := Lib.hid (show T.ok j (64 * j + 64) by rw [hT]; exact NodeD.tick_ok HOK.out _)
    have HTK := Lib.hid (fun (F : List SP) (w : World) (H : At w0 (nodeo p mb S :: F) w) => ntick_c H HOK.out (by omega) (now := 18446744073709551615) (by omega))
    rw [← hT, ← hTO] at HTK
    obtain ⟨sn, hsn⟩ : ∃ sn, sn = otn + TO.length := ⟨_, rfl⟩
    have e8 : IntKind.i64.wrap ((otn : Int) + (TO.length : Int)) = (sn : Int) := by have := HT.out; have := HTC.out.2; rw [IntKind.wrap_i64]; omega
    have HSN := Lib.hid hsn
    clear hT hTO htc hhp hj60 hsn
    go_wp2_with fail
    refine (HTK.out _ _ (H.pull 1 rfl)).mono ?_; rintro e w' ⟨v, rfl, H⟩
    obtain ⟨va, vq, rfl⟩ := out_slice H
    replace H := H.tail
    have hdl := Lib.hid HTC.out.1.len
    have hdl2 := Lib.hid (show (dropsC T.drops).length = 13 by rw [drops_len, hdl.out])
    obtain ⟨d0, hd0⟩ : ∃ d0, d0 = T.drops.getD 0 0 := ⟨_, rfl⟩
    have HD0 := Lib.hid (show d0 = 0 by rw [hd0]; exact HTC.out.1.none)
    have hdc0 := Lib.hid (show (dropsC T.drops)[0]? = some (.int .i64 (d0 : Int)) by rw [hd0]; exact drops_get (by rw [hdl.out]; omega))
    obtain ⟨x0, hx0⟩ : ∃ x, x = (T.mail.getD 0 []).length := ⟨_, rfl⟩
    obtain ⟨x1, hx1⟩ : ∃ x, x = (T.mail.getD 1 []).length := ⟨_, rfl⟩
    obtain ⟨x2, hx2⟩ : ∃ x, x = (T.mail.getD 2 []).length := ⟨_, rfl⟩
    have HX := Lib.hid (show T.boxesN = x0 + x1 + x2 by rw [hx0, hx1, hx2]; exact boxes_three HTC.out.1.mail)
    have HX0 := Lib.hid hx0
    have HX1 := Lib.hid hx1
    have HX2 := Lib.hid hx2
    have HALL := Lib.hid (show otn + TO.length + (x0 + x1 + x2) + T.drops.sum = tkn + rfn by
     have h1 := HTC.out.2
     have h2 := HT.out.1
     unfold NodeD.tot at h1 h2
     rw [HHP.out, HX.out] at h1
     unfold NodeD.dropsN at h1 h2
     rw [List.length_nil] at h1
     omega)
    clear hd0 hx0 hx1 hx2
    go_wp2_with fail
    refine (ndrops_c H hdl.out).mono ?_; rintro e w' ⟨rfl, H⟩
    go_wp2_with ((with_reducible refine wpList_op rfl ?_); intro _ hK; first
     | (refine dst_is 19 rfl ?_; refine wp_alloc_sl 47 rfl info_a13 H (fun X w' (H : At w0 (raw X (dropsC (List.replicate 13 0)).toArray 47 :: _) w') _ => hK _ _ ?_))
     | (refine sto_is 19 rfl ?_; refine wp_store_row_sl 47 _ _ rfl (cells := (dropsC T.drops).toArray) rfl rfl (by rw [List.size_toArray, hdl2.out]; exact size_a13) (by simpa using drops_one T.drops) 0 H rfl (by rw [List.size_toArray, List.size_toArray, hdl2.out]; rfl) (fun w' (H : At w0 (raw X (dropsC T.drops).toArray 47 :: nodeo p mb T :: bag Y :: F) w') => hK _ _ (Stop.go ?_))))
    refine Stop.un ?_
    go_wp2_with fail
    go_loopw [18, 20] (fun dr i wr => ∃ n : Nat, n ≤ 13 ∧ i = .int .i64 n ∧ dr = .int .i64 ((T.drops.take n).sum : Nat) ∧ At w0 (raw X (dropsC T.drops).toArray 47 :: nodeo p mb T :: bag Y :: F) wr) (fun _ i _ => 13 - (intOf i).toNat)
    case atStart => exact ⟨0, by omega, rfl, rfl, H⟩
    case round =>
     clear H
     obtain ⟨n, hn, rfl, rfl, H⟩ := hrel
     by_cases g3 : (n : Int) < 13
     · obtain ⟨dn, hdn⟩ : ∃ d, d = T.drops.getD n 0 := ⟨_, rfl⟩
       have hcn := Lib.hid (show (dropsC T.drops)[n]? = some (.int .i64 (dn : Int)) by rw [hdn]; exact drops_get (by rw [hdl.out]; omega))
       obtain ⟨ds, hds⟩ : ∃ ds, ds = (T.drops.take n).sum := ⟨_, rfl⟩
       rw [← hds]
       have hds2 : ds + dn = (T.drops.take (n + 1)).sum := by rw [hds, hdn]; exact (sum_take (by rw [hdl.out]; omega)).symm
       have hle := sum_take_le T.drops (n + 1)
       have hal := HALL.out
       have htt := HT.out
       have hjj := HJ.out
       have e9 : IntKind.i64.wrap ((ds : Int) + (dn : Int)) = ((ds + dn : Nat) : Int) := by rw [IntKind.wrap_i64]; omega
       have e10 : IntKind.i64.wrap ((n : Int) + 1) = ((n + 1 : Nat) : Int) := by rw [IntKind.wrap_i64]; omega
       have HDS := Lib.hid hds2
       have HN9 := Lib.hid (show n < 13 by omega)
       clear hdn hds hds2 hle hal htt hjj hn
       go_wp2_with ((with_reducible refine wpList_op rfl ?_); intro _ hK; (refine dst_is 113 rfl ?_; refine wp_get 3 _ rfl rfl (by kernel_rfl) (at_raw H 0 rfl (j := n) hcn.out) (hK _ _ (Stop.go ?_))))
       refine Stop.un ?_
       go_wp2_with fail
       first
        | (refine ⟨?_, ?measure⟩; iterate 220 (try apply Exists.intro); refine ⟨?rel, rfl⟩)
        | refine ⟨?rel, ?measure⟩
       case rel => exact ⟨n + 1, by have := HN9.out; omega, by first | rfl | rw [e10], by first | (rw [e9, HDS.out]; done) | (rw [← HDS.out]; rfl), H⟩
       case measure => have := HN9.out; (try rw [e10]); simp [intOf]; omega
     · obtain rfl : n = 13 := by omega
       obtain ⟨ds, hds⟩ : ∃ ds, ds = (T.drops.take 13).sum := ⟨_, rfl⟩
       rw [← hds]
       have hds2 : ds = T.drops.sum := by rw [hds, List.take_of_length_le (by rw [hdl.out]; omega)]
       have hal := HALL.out
       have htt := HT.out
       have hjj := HJ.out
       rw [← hds2] at hal
       obtain ⟨y1, hy1⟩ : ∃ y, y = x0 + x1 := ⟨_, rfl⟩
       obtain ⟨y2, hy2⟩ : ∃ y, y = y1 + x2 := ⟨_, rfl⟩
       obtain ⟨y3, hy3⟩ : ∃ y, y = sn + y2 := ⟨_, rfl⟩
       obtain ⟨y4, hy4⟩ : ∃ y, y = y3 + ds := ⟨_, rfl⟩
       have hsn := HSN.out
       have e9 : IntKind.i64.wrap ((x0 : Int) + (x1 : Int)) = (y1 : Int) := by rw [IntKind.wrap_i64]; omega
       have e10 : IntKind.i64.wrap ((y1 : Int) + (x2 : Int)) = (y2 : Int) := by rw [IntKind.wrap_i64]; omega
       have e11 : IntKind.i64.wrap ((sn : Int) + (y2 : Int)) = (y3 : Int) := by rw [IntKind.wrap_i64]; omega
       have e12 : IntKind.i64.wrap ((y3 : Int) + (ds : Int)) = (y4 : Int) := by rw [IntKind.wrap_i64]; omega
       have e13 : IntKind.i64.wrap ((y4 : Int) - (rfn : Int)) = (tkn : Int) := by rw [IntKind.wrap_i64]; omega
       (try rw [e8])
       replace H := H.pull 1 rfl
       clear hds hds2 hal htt hjj hy1 hy2 hy3 hy4 hsn hn g3
       go_wp2_with fail
       refine (nmail_c H).mono ?_; rintro e w' ⟨rfl, rfl⟩
       go_wp2_with fail
       refine (mlen_c H (k := 0) (by omega)).mono ?_; rintro e w' ⟨rfl, rfl⟩
       rw [← HX0.out]
       go_wp2_with fail
       refine (nmail_c H).mono ?_; rintro e w' ⟨rfl, rfl⟩
       go_wp2_with fail
       refine (mlen_c H (k := 1) (by omega)).mono ?_; rintro e w' ⟨rfl, rfl⟩
       rw [← HX1.out]
       go_wp2_with fail
       refine (nmail_c H).mono ?_; rintro e w' ⟨rfl, rfl⟩
       go_wp2_with fail
       refine (mlen_c H (k := 2) (by omega)).mono ?_; rintro e w' ⟨rfl, rfl⟩
       rw [← HX2.out]
       go_wp2_with fail
       refine (nlen_c H).mono ?_; rintro e w' ⟨rfl, rfl⟩
       rw [HHP.out]
       obtain rfl := HD0.out
       go_wp2_with ((refine wpList_opif (by rfl) ?_); intro _ hK; (refine dst_is 145 rfl ?_; refine wp_get 3 _ rfl rfl (by kernel_rfl) (at_raw H 1 rfl (j := 0) hdc0.out) (hK _ _ (Stop.go ?_))))
       refine Stop.un ?_
       go_wp2_with fail
       go_ret
       exact ⟨rfl, H.maskR [false, false, false]⟩
theorem nodeCounts_walk {W : World} {a b c : Int} {v : Value} (G : Glob W) (hc : (Lit.int .u64 c).wf = true) (h : ∃ ops : List OpO, SeeL 15 opC W [] v ops ∧ ∀ x ∈ ops, ∃ bs, SeeB W [] x.1.b bs) :
    Calls Tryz.prog 5 #[.int .i64 a, .int .i64 b, .int .u64 c, v] W fun e w' => e = .returned (.bool true) ∧ Below W.heap.size W w' := by
 obtain ⟨z, hz, rfl⟩ := u64_nat hc
 obtain ⟨ops, h1, h2⟩ := h
 exact (nodeCounts_c G (At.start W) h1 h2 a b hz).mono fun _ _ h => ⟨h.1, h.2.below⟩
theorem nodeCounts_own : ownKnob Tryz.prog.godebug = none := by kernel_rfl
theorem nodeCounts_laidout : laidOutB Tryz.prog = true := by kernel_rfl
set_option maxRecDepth 100000 in
theorem nodeCounts_contract (H : Type) (enc : TypeId × Value → H) (W : World) (base : Nat) (args : Array Value) (ds gs : List (DataW H)) (before : List MemPlace)
    (hval : ∀ (j : Nat) t v, Tryz.f5.params[j]? = some t → args[j]? = some v → Value.okWide Tryz.prog W .any base t v)
    (hW : DataW.Whole enc Tryz.prog Tryz.f5.params.toList Rows.nodeCountsSpec.vars false W args.toList ds gs before) (hL : laidMetH Tryz.prog Rows.nodeCountsRow.laid W) :
    Calls Tryz.prog 5 args W fun e W' => ∃ v, e = .returned v ∧ Rows.nodeCountsSpec.post enc Tryz.prog Tryz.f5 false true false false W args v W' := by
 have G : Glob W := glob_of_laid hL
 have hW' := hW
 obtain ⟨p, q, hA0, hV, rfl, hfz, hnd⟩ := hW
 have hA : DataW.TrodAll enc Tryz.prog W 0 (fun _ => true) true Tryz.f5.params.toList args.toList ds p := hA0
 rw [Tryz.params5] at hA hval
 obtain ⟨v0, vs0, d0, ds0, p0, q0, hargs, rfl, rfl, h0, r0⟩ := trodAll_cons hA
 obtain ⟨v1, vs1, d1, ds1, p1, q1, rfl, rfl, rfl, h1, r1⟩ := trodAll_cons r0
 obtain ⟨v2, vs2, d2, ds2, p2, q2, rfl, rfl, rfl, h2, r2⟩ := trodAll_cons r1
 obtain ⟨v3, vs3, d3, ds3, p3, q3, rfl, rfl, rfl, h3, r3⟩ := trodAll_cons r2
 obtain ⟨rfl, rfl, rfl⟩ := trodAll_nil r3
 obtain rfl : args = #[v0, v1, v2, v3] := by cases args; simp_all
 obtain ⟨rfl, rfl⟩ := trodVars_none hV
 have k0 := h0
 have lt0 : ∀ x ∈ p0, x.block < W.heap.size := by obtain ⟨m, hm⟩ := k0; exact DataW.trod_lt m _ _ _ hm
 have k1 := h1
 have lt1 : ∀ x ∈ p1, x.block < W.heap.size := by obtain ⟨m, hm⟩ := k1; exact DataW.trod_lt m _ _ _ hm
 have k2 := h2
 have lt2 : ∀ x ∈ p2, x.block < W.heap.size := by obtain ⟨m, hm⟩ := k2; exact DataW.trod_lt m _ _ _ hm
 have k3 := h3
 have lt3 : ∀ x ∈ p3, x.block < W.heap.size := by obtain ⟨m, hm⟩ := k3; exact DataW.trod_lt m _ _ _ hm
 obtain ⟨a0, rfl, rfl, rfl, f0⟩ := open_int Tryz.underlying3 (hval 0 3 v0 rfl rfl) h0
 obtain ⟨a1, rfl, rfl, rfl, f1⟩ := open_int Tryz.underlying3 (hval 1 3 v1 rfl rfl) h1
 obtain ⟨a2, rfl, rfl, rfl, f2⟩ := open_int Tryz.underlying22 (hval 2 22 v2 rfl rfl) h2
 have f3 := open_ops (hval 3 23 v3 rfl rfl) h3
 clear hA0
 refine (nodeCounts_walk G f2 f3).mono fun e W' ⟨he, bel⟩ => ?_
 subst he
 exact ⟨_, rfl, _, _, _, [], _, [], hW', trodAll_mk1 (shut_bool Tryz.underlying4 _), (trodAll_cons_mk (Below.trod nodeCounts_laidout (by kernel_rfl) (of_decide_eq_true (by kernel_rfl)) k0 bel lt0) (trodAll_cons_mk (Below.trod nodeCounts_laidout (by kernel_rfl) (of_decide_eq_true (by kernel_rfl)) k1 bel lt1) (trodAll_cons_mk (Below.trod nodeCounts_laidout (by kernel_rfl) (of_decide_eq_true (by kernel_rfl)) k2 bel lt2) (trodAll_cons_mk (Below.trod nodeCounts_laidout (by kernel_rfl) (of_decide_eq_true (by kernel_rfl)) k3 bel lt3) trodAll_mk0)))), rfl, bel.frame _, fun h => by cases h⟩
noncomputable def nodeCounts_wit : Array Value := #[.int .i64 0, .int .i64 0, .int .u64 0, .slice none 0 0]
theorem nodeCounts_met (os : Os) : laidMet Tryz.prog Rows.nodeCountsRow.laid ((laidWorld os).forCall (fun _ _ => 0) ⟨#[], nodeCounts_wit, []⟩).memory := laidMet_of_run' 8 (by kernel_rfl) (by kernel_rfl)
set_option maxRecDepth 100000 in
theorem nodeCounts_lifted (os : Os) (started : os.Started) (H : Type) (enc : TypeId × Value → H) (F : Stop.Interp) :
    ReturnsInHanded {} Tryz.checked os 5 .any ((OpenSpec.ofChange Rows.nodeCountsSpec).preRow enc Tryz.prog Tryz.f5 Rows.nodeCountsRow.domain false Rows.nodeCountsRow.laid) (((OpenSpec.ofChange Rows.nodeCountsSpec).at F).post enc Tryz.prog Tryz.f5 false true false false) := by
 obtain ⟨x, hx⟩ := Option.isSome_iff_exists.1 (show (DataW.whole enc Tryz.prog ((laidWorld os).forCall (fun _ _ => 0) ⟨#[], nodeCounts_wit, []⟩).memory Tryz.f5.params.toList Rows.nodeCountsSpec.vars false nodeCounts_wit.toList 8).isSome = true by kernel_rfl)
 refine returnsInHanded_of_row (C := Tryz.checked) (s := OpenSpec.ofChange Rows.nodeCountsSpec) nodeCounts_own started (by kernel_rfl) Tryz.func5
  (witness_row_at (enc := enc) (C := Tryz.checked) false (laidWorld os) nodeCounts_wit rfl (by kernel_rfl) (by kernel_rfl) (by kernel_rfl)
   (OpenSpec.preRow_of_cond 8 hx (by kernel_rfl) (fun k hk => by cases hk) (by kernel_rfl) (nodeCounts_met os))) ?_
 intro W base args ds gs before hval hW _ _ _ hL _ _
 exact nodeCounts_contract H enc W base args ds gs before hval hW hL
theorem nodeCounts_said : Rows.NodeCountsSaid :=
 OpenClaim.holds_of_cond 5 Tryz.f5 rfl rfl rfl rfl rfl rfl rfl ⟨rfl, rfl, rfl, rfl, rfl⟩ rfl rfl rfl rfl rfl (by kernel_rfl) Tryz.func5 (by kernel_rfl)
  (of_decide_eq_true (by kernel_rfl)) (by unfold Func.isWrapper; first | (rw [if_pos (by decide +kernel)]; kernel_rfl) | (rw [if_neg (by decide +kernel)]; exact ⟨rfl, rfl⟩))
  (fun os started H enc _ F => by rw [OpenClaim.pre_eq_preRow]; exact nodeCounts_lifted os started H enc F)
theorem nodeCounts_plain (f : FuncId) (fn : Func) (hf : Tryz.pinned.checked.prog.funcNamed "hourglass/hourglasslaw17.NodeCounts" = some f) (hfn : Tryz.pinned.checked.prog.funcs[f]? = some fn) :
    false = Tryz.pinned.checked.prog.looks [] ∧ ∀ (j : Nat) t, fn.params[j]? = some t → Tryz.pinned.checked.prog.wantsStandIn t = false := by
 obtain rfl : f = 5 := Option.some.inj ((show Tryz.prog.funcNamed "hourglass/hourglasslaw17.NodeCounts" = some 5 by kernel_rfl).symm.trans hf) |>.symm
 obtain rfl : fn = Tryz.f5 := (Option.some.inj (Tryz.func5.symm.trans hfn)).symm
 refine ⟨by kernel_rfl, fun j t ht => ?_⟩
 have hall : ∀ t ∈ Tryz.f5.params, Tryz.prog.wantsStandIn t = false := by
  have h : (Tryz.f5.params.toList.all fun t => !Tryz.prog.wantsStandIn t) = true := by kernel_rfl
  intro t ht
  simpa using List.all_eq_true.1 h t (Array.mem_toList_iff.2 ht)
 exact hall t (Array.mem_of_getElem? ht)
theorem nodeCounts_holds : Rows.NodeCountsCardSaid :=
 Claim7.holds_tied_plain_at .later [] _ _ _ _ nodeCounts_said (fun _ h => by cases h) (by kernel_rfl) (fun _ h => by cases h) nodeCounts_row_tie rfl ⟨rfl, rfl⟩ (by kernel_rfl) rfl nodeCounts_plain (by kernel_rfl)
#print axioms nodeCounts_holds
end Go.Proofs.YtmflbekabkainaaGreatDoor
