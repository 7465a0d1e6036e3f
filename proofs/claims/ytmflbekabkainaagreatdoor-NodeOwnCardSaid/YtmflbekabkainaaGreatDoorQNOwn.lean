import Derived.Test.YtmflbekabkainaaGreatDoorQNOpz
import Derived.Test.YtmflbekabkainaaGreatDoorQNFew
set_option linter.unusedVariables false
set_option linter.unusedSimpArgs false
namespace Go.Hg
open Go.RowKit
theorem NodeD.pops_sub {now : Nat} : ∀ {n : Nat} {s : NodeD}, ∀ t ∈ (NodeD.pops n s now).hp, t ∈ s.hp
 | 0, s, t, h => h
 | n + 1, s, t, h => by
  unfold NodeD.pops at h
  split at h
  · have h2 := NodeD.pops_sub (n := n) (s := s.pop now) t h
    rw [NodeD.pop_hp] at h2
    exact popR_sub h2
  · exact h
theorem NodeD.tick_sub {s : NodeD} {now : Nat} : ∀ t ∈ (s.tick now).hp, t ∈ s.hp := fun t h => by
 have := NodeD.pops_sub t h
 rwa [NodeD.expire_hp] at this
theorem At.bag_pull {w0 w : World} {F L : List SP} {P : SP} {n : Nat} (H : At w0 (bag L :: F) w) (h : L[n]? = some P) : At w0 (P :: bag (L.eraseIdx n) :: F) w := by
 have h1 : At w0 ((P :: L.eraseIdx n) ++ F) w := H.bag_open.perm ((perm_erase L n P h).symm.append_right F)
 have h2 : At w0 (L.eraseIdx n ++ (P :: F)) w := h1.perm (by rw [List.cons_append]; exact List.perm_middle.symm)
 exact (At.bag_shut _ h2).pull 1 rfl
theorem At.bag_put {w0 w : World} {F L : List SP} {P : SP} {n : Nat} (hn : n < L.length) (H : At w0 (P :: bag (L.eraseIdx n) :: F) w) : At w0 (bag (L.set n P) :: F) w := by
 have h1 : At w0 (L.eraseIdx n ++ (P :: F)) w := (H.pull 1 rfl).bag_open
 have h2 : At w0 ((P :: L.eraseIdx n) ++ F) w := h1.perm (by rw [List.cons_append]; exact List.perm_middle)
 refine At.bag_shut _ (h2.perm ?_)
 have h3 := perm_erase (L.set n P) n P (by simp [hn])
 rw [List.eraseIdx_set_eq] at h3
 exact h3.append_right F
def oH (delay next : Nat) (nonce : BitVec 8) : OpD := ⟨0, 0, 4, 1, 0, 5, 5, delay, nonce, false, 0, next, 0, 0, .slice none 0 0⟩
theorem oH_ok {delay next : Nat} {nonce : BitVec 8} (h4 : delay < 16) (h5 : next < 65536) : (oH delay next nonce).ok :=
 ⟨by simp [oH], by simp [oH], by simp [oH], by simp [oH], by simp [oH], by simp [oH], by show delay < _; omega, by simp [oH], h5, by simp [oH], _, _, _, rfl⟩
def nodeG : NodeD := (NodeD.client (NodeD.fresh 1 64 99 1) 4 (keyN 1)).1
theorem nodeG_zero : (NodeD.client (NodeD.fresh 1 64 99 1) 4 (keyN 1)).2 = 0 := rfl
theorem nodeG_look : mlook nodeG.cl 4 = some (keyN 1) := rfl
theorem nodeG_hp : nodeG.hp = [] := rfl
theorem nodeG_ok : nodeG.ok 0 0 := NodeD.client_ok (NodeD.fresh_ok (by omega) 64 99 1) 4 (keyN_length 1)
theorem take_cl (s : NodeD) (b : Bytes) (now : Nat) : (s.take b now).cl = s.cl := by
 unfold NodeD.take
 split <;> rfl
theorem take_soon {s : NodeD} {delay next n : Nat} {nonce : BitVec 8} (hd : delay < 16) (hx : next < 65536) (hn : n < 1099511627776) (hc : mlook s.cl 4 = some (keyN 1)) (h : ∀ t ∈ s.hp, t.1 ≤ ((n + 15 : Nat) : Int)) :
    ∀ t ∈ (s.take ((oH delay next nonce).built n) n).hp, t.1 ≤ ((n + 15 : Nat) : Int) := by
 by_cases h0 : s.takeE ((oH delay next nonce).built n) n = 0
 · obtain ⟨x, P⟩ := OpD.peeled (oH_ok (nonce := nonce) hd hx) (now := n) (by omega)
   rw [OpD.take_built (oH_ok hd hx) (by omega) rfl P hc h0]
   intro t ht
   rcases List.mem_append.1 ht with ht | ht
   · exact h t ht
   · simp at ht
     subst ht
     show ((n + delay : Nat) : Int) ≤ _
     omega
 · unfold NodeD.take
   rw [if_neg h0]
   exact h
end Go.Hg
namespace Go.Proofs.YtmflbekabkainaaGreatDoor
open Go.ChangeShapes Go.WideShapes Go.ChangeAt Go.RowKit Go.Hg
theorem and_15 (z : Nat) : bits BinOp.and IntKind.u32 (z : Int) 15 = ((z % 16 : Nat) : Int) := by
 have hc : (15 : Int) = ((15 : Nat) : Int) := rfl
 rw [hc]
 simp only [bits, BitVec.ofInt_natCast, BitVec.toNat_and, BitVec.toNat_ofNat]
 have hm : (15 : Nat) % 2 ^ IntKind.u32.bits = 2 ^ 4 - 1 := rfl
 rw [hm, Nat.and_two_pow_sub_one_eq_mod, show IntKind.u32.bits = 32 from rfl, IntKind.wrap_u32]
 omega
theorem own_client {w0 : World} : ∃ ky : Bytes, (∀ (F : List SP) (w : World), At w0 F w → Calls Tryz.prog 16 #[.int .u8 1] w fun e w' => e = .returned (.agg (v8 ky).toArray) ∧ At w0 F w') ∧
    ∀ (p mb : Nat) (F : List SP) (w : World), At w0 (nodeo p mb (NodeD.fresh 1 64 99 1) :: F) w → Calls Tryz.prog 17 #[.pointer (some ⟨p, 0, none⟩), .int .u16 4, .agg (v8 ky).toArray] w fun e w' => e = .returned (.int .i64 0) ∧ At w0 (nodeo p mb nodeG :: F) w' := by
 refine ⟨keyN 1, fun F w H => lkey_c H (k := 1) (by omega), fun p mb F w H => ?_⟩
 have := nclient_c H (NodeD.fresh_ok (by omega) 64 99 1) (who := 4) (by omega) (keyN_length 1)
 rw [nodeG_zero] at this
 exact this
theorem built_oH (delay next : Nat) (nonce : BitVec 8) {nv : Int} (hn : nv = iv nonce) (w : World) : (Instr.build 38 [(2, Value.int .u16 4), (3, .int .u8 1), (5, .int .i8 5), (6, .int .i8 5), (7, .int .u32 (delay : Int)), (8, .int .u8 nv), (11, .int .u16 (next : Int))].toArray).run Tryz.prog w = .ok (.agg (oH delay next nonce).cells.toArray) w := by subst hn; kernel_rfl
theorem zip_set {xs : List OutV} {l : List (Nat × Bytes)} {n : Nat} {x : OutV} (hx : xs[n]? = some x) (y : Nat × Bytes) : (List.zipWith outRow xs l).set n (outRow x y) = List.zipWith outRow xs (l.set n y) := by
 refine List.ext_getElem? fun i => ?_
 rw [List.getElem?_set, List.getElem?_zipWith, List.getElem?_zipWith, List.getElem?_set]
 by_cases hi : n = i
 · subst hi
   rw [if_pos rfl, if_pos rfl, hx, List.length_zipWith]
   have hl := (List.getElem?_eq_some_iff.1 hx).1
   by_cases h2 : n < l.length
   · rw [if_pos (by omega), if_pos h2]
   · rw [if_neg (by omega), if_neg h2]
 · rw [if_neg hi, if_neg hi]
theorem fit_set {xs : List OutV} {l : List (Nat × Bytes)} (h : outFit xs l) {n : Nat} {y z : Nat × Bytes} (hy : l[n]? = some y) (h1 : z.1 = y.1) (h2 : z.2.length = y.2.length) : outFit xs (l.set n z) := by
 unfold outFit at h ⊢
 rw [h, List.map_set, h1, h2]
 refine List.ext_getElem? fun i => ?_
 rw [List.getElem?_set]
 by_cases hi : n = i
 · subst hi
   rw [if_pos rfl, List.getElem?_map, hy, List.length_map, if_pos (List.getElem?_eq_some_iff.1 hy).1]
   rfl
 · rw [if_neg hi]
theorem fits_drops : ∀ {l : List Nat}, (∀ d ∈ l, d ≤ 1000000) → fits (List.replicate l.length (.i .i64)) (dropsC l)
 | [], _ => trivial
 | d :: l, h => by
  refine ⟨⟨rfl, ?_⟩, fits_drops fun d hd => h d (List.mem_cons_of_mem _ hd)⟩
  have h1 := h d List.mem_cons_self
  have e1 : IntKind.i64.min = -9223372036854775808 := rfl
  have e2 : IntKind.i64.max = 9223372036854775807 := rfl
  simp [Lit.wf, e1, e2]
  omega
theorem exec_eql13 {o : Oper} {ρ : Operand → Value} {x y : Operand} {yt : TypeId} (ho : o.op = .binOp .eql 47 x y yt) {xs : List Value} (hx : ρ x = .agg xs.toArray) (hy : ρ y = .agg xs.toArray) (hf : fits (List.replicate 13 (.i .i64)) xs) (w : World) : (execOp ρ o).run Tryz.prog w = .ok (.value (.bool true)) w := by
 rw [exec_eql_flat (m := 4) (ks := List.replicate 13 (.i .i64)) ho hx hy (by omega) (by kernel_rfl) (by kernel_rfl) (by kernel_rfl) (by kernel_rfl) (by kernel_rfl) hf hf, eqB_refl]
theorem wp_bstore {o : Oper} {a : Act} {w w0 : World} {L : List SP} {K : Act → World → Prop} {Q : Exit → Act → World → Prop} (x y : Operand) (ho : o.op = .store 5 x y) {g off cap i n : Nat} {ys : Bytes} {z : BitVec 8} (hn : n = ys.length) (hx : a.eval x = .pointer (some ⟨g, off + i, none⟩)) (hy : a.eval y = .int .u8 (iv z))
    (H : At w0 (lrow 5 1 c8 (.slice (some ⟨g, off, none⟩) n cap) ys :: L) w) (hlt : i < n) (h : ∀ w', At w0 (lrow 5 1 c8 (.slice (some ⟨g, off, none⟩) n cap) (ys.set i z) :: L) w' → K (a.put o.dst undef) w') : OWp Tryz.prog o a w K Q := by
 subst hn
 refine wp_lstore el_u8 x y ho (i := i) (z := z) (by rw [Nat.mul_one]; exact hx) hy rfl H hlt (fun w' H => h w' ?_)
 rw [List.length_set] at H
 exact H
set_option maxRecDepth 20000 in
set_option maxHeartbeats 4000000 in
theorem nodeOwn_c {w0 w : World} {F : List SP} (G : Glob w0) (H : At w0 F w) {v : Value} {ops : List OpO} (hv : SeeL 15 opC w0 [] v ops) {z : Nat} (hz : z < 18446744073709551616) :
    Calls Tryz.prog 10 #[v, .int .u64 (z : Int)] w fun e w' => e = .returned (.bool true) ∧ At w0 F w' := by
 obtain ⟨n, hn⟩ : ∃ n, n = z % 1099511627776 := ⟨_, rfl⟩
 have e1 : bits BinOp.and IntKind.u64 (z : Int) 1099511627775 = (n : Int) := by rw [hn]; exact and_40 z
 have HN := Lib.hid (show n < 1099511627776 by omega)
 obtain ⟨ky, hky, hcl⟩ := own_client (w0 := w0)
 have HKY := Lib.hid hky
 have HCL := Lib.hid hcl
 obtain ⟨a, q, rfl, hcap, hsome⟩ := hv.slice
 obtain ⟨m, hm⟩ : ∃ m, m = ops.length := ⟨_, rfl⟩
 rw [← hm] at hv hcap hsome ⊢
 have HSOME := Lib.hid hsome
 have HM := Lib.hid hm
 have HV := Lib.hid hv
 clear hv hm hsome hcap hn hz hky hcl
 go_enter Tryz.func10, Tryz.ntmps10
 go_wp2_with fail
 refine (lshown_c G H).mono ?_; rintro e w' ⟨rfl, H⟩
 go_wp2_with fail
 refine (nnew_c H (addr := 1) (by omega) 64 99 1).mono ?_; rintro e w' ⟨p, mb, rfl, H⟩
 go_wp2_with fail
 refine (nnew_c H (addr := 1) (by omega) 64 99 1).mono ?_; rintro e w' ⟨p2, mb2, rfl, H⟩
 go_wp2_with fail
 refine (HKY.out _ _ H).mono ?_; rintro e w' ⟨rfl, H⟩
 go_wp2_with fail
 refine (HCL.out _ _ _ _ (H.pull 1 rfl)).mono ?_; rintro e w' ⟨rfl, H⟩
 go_wp2_with fail
 refine (HKY.out _ _ H).mono ?_; rintro e w' ⟨rfl, H⟩
 go_wp2_with fail
 refine (HCL.out _ _ _ _ (H.pull 1 rfl)).mono ?_; rintro e w' ⟨rfl, H⟩
 replace H : At w0 (nodeo p mb nodeG :: nodeo p2 mb2 nodeG :: F) w' := H.pull 1 rfl
 go_wp2_with fail
 go_loopw [8] (fun i wr => ∃ (j : Nat) (S : NodeD), j ≤ 10 ∧ i = .int .i64 j ∧ S.ok j j ∧ mlook S.cl 4 = some (keyN 1) ∧ (∀ t ∈ S.hp, t.1 ≤ ((n + 15 : Nat) : Int)) ∧ At w0 (nodeo p mb S :: nodeo p2 mb2 S :: F) wr) (fun i _ => 10 - (intOf i).toNat)
 case atStart => exact ⟨0, nodeG, by omega, rfl, nodeG_ok, nodeG_look, (by rw [nodeG_hp]; intro t h; cases h), H⟩
 case round =>
  clear H
  obtain ⟨j, S, hj, rfl, hok, hlook, hsoon, H⟩ := hrel
  have HJ := Lib.hid hj
  have HOK := Lib.hid hok
  have HLK := Lib.hid hlook
  have HSO := Lib.hid hsoon
  clear hj hok hlook hsoon
  by_cases g1 : (j : Int) < m
  · by_cases g2 : (j : Int) < 10
    · have HJ6 := Lib.hid (show j < 10 by omega)
      obtain ⟨b, off, rfl⟩ := HSOME.out (by omega)
      obtain ⟨x, hx⟩ : ∃ x, ops[j]? = some x := ⟨_, List.getElem?_eq_getElem (by rw [← HM.out]; omega)⟩
      have HR := Lib.hid (fun (L : List SP) (w : World) (hw : At w0 L w) => (HV.out.weak (List.nil_sublist L)).elem el_op hw hx)
      obtain ⟨o, ho⟩ := x
      obtain ⟨d0, hd0⟩ : ∃ d0, d0 = o.delay := ⟨_, rfl⟩
      obtain ⟨nx, hnx⟩ : ∃ nx, nx = o.next := ⟨_, rfl⟩
      have HC7 := Lib.hid (show ∀ (L : List SP) (w : World), At w0 L w → w.cell? ⟨b, off + j * 15 + 7, none⟩ = some (.int .u32 (d0 : Int)) from fun L w hw => HR.out L w hw 7 _ (by rw [hd0]; rfl))
      have HC11 := Lib.hid (show ∀ (L : List SP) (w : World), At w0 L w → w.cell? ⟨b, off + j * 15 + 11, none⟩ = some (.int .u16 (nx : Int)) from fun L w hw => HR.out L w hw 11 _ (by rw [hnx]; rfl))
      have HNX := Lib.hid (show nx < 65536 by rw [hnx]; exact ho.next)
      obtain ⟨d, hd⟩ : ∃ d, d = d0 % 16 := ⟨_, rfl⟩
      have HD := Lib.hid (show d < 16 by omega)
      have e2 : bits BinOp.and IntKind.u32 (d0 : Int) 15 = (d : Int) := by rw [hd]; exact and_15 d0
      have e3 : IntKind.u8.wrap (j : Int) = (j : Int) := by rw [IntKind.wrap_u8]; omega
      obtain ⟨nn, hnn⟩ : ∃ nn : BitVec 8, nn = BitVec.ofNat 8 j := ⟨_, rfl⟩
      have hjn : (j : Int) = iv nn := by rw [hnn]; unfold iv; rw [BitVec.toNat_ofNat]; omega
      have HB := Lib.hid (built_oH d nx nn hjn)
      obtain ⟨OO, hOO⟩ : ∃ OO, OO = oH d nx nn := ⟨_, rfl⟩
      rw [← hOO] at HB
      have HOO := Lib.hid (show OO.ok by rw [hOO]; exact oH_ok HD.out HNX.out)
      obtain ⟨T, hT⟩ : ∃ T, T = S.take (OO.built n) n := ⟨_, rfl⟩
      obtain ⟨E, hE⟩ : ∃ E, E = S.takeE (OO.built n) n := ⟨_, rfl⟩
      have HTO := Lib.hid (show T.ok (j + 1) (j + 1) by rw [hT]; exact NodeD.take_ok HOK.out _ n)
      have HTL := Lib.hid (show mlook T.cl 4 = some (keyN 1) by rw [hT, take_cl]; exact HLK.out)
      have HTS := Lib.hid (show ∀ t ∈ T.hp, t.1 ≤ ((n + 15 : Nat) : Int) by rw [hT, hOO]; exact take_soon HD.out HNX.out HN.out HLK.out HSO.out)
      have HTK := Lib.hid (fun (p mb : Nat) (F : List SP) (w : World) (v : Value) (H : At w0 (nodeo p mb S :: F) w) (hv : SeeB w0 (nodeo p mb S :: F) v (OO.built n)) => nTake_c G H HOK.out (by have := HJ6.out; omega) (by have := HJ6.out; omega) hv (now := n) (by have := HN.out; omega))
      simp only [← hT, ← hE] at HTK
      have HBL := Lib.hid (fun (F : List SP) (w : World) (H : At w0 F w) => lbuilt_c H HOO.out (now := n) (by have := HN.out; omega))
      obtain ⟨BB, hBB⟩ : ∃ BB, BB = OO.built n := ⟨_, rfl⟩
      have HBB := Lib.hid (show BB.length = 614 by rw [hBB]; exact OpD.built_length HOO.out (by have := HN.out; omega))
      simp only [← hBB] at HTK HBL
      have hol := opC_length OO
      have HOL := Lib.hid hol
      have e5 : IntKind.i64.wrap ((j : Int) + 1) = ((j + 1 : Nat) : Int) := by rw [IntKind.wrap_i64]; omega
      clear hx hd0 hnx hd hnn hjn hOO hT hE hBB hol HR
      go_wp2_with fail
      refine wpS_begin [] (F) (.fr 0 (.fr 1 (.fr 2 (.fr 3 (.tk 4 (.fr 5 (.fr 6 (.fr 7 (.fr 8 (.fr 9 (.fr 10 (.fr 11 (.tk 12 (.fr 13 (.nx 14 (.nx 15 .nil)))))))))))))))) rfl (by kernel_rfl) (by kernel_rfl) H ?_
      clear H
      intro ops hOps
      iterate 4 refine fs hOps ?_
      refine ts hOps (fun w hw => HC7.out _ _ hw) ?_
      iterate 7 refine fs hOps ?_
      refine ts hOps (fun w hw => HC11.out _ _ hw) ?_
      refine wpS_free hOps rfl (fun _ _ _ h => h) (yl_build rfl 38 _ rfl (by rw [Array.toList_map]; rfl) HB.out) ?_
      simp only [nrm]
      refine wpS_next hOps rfl rfl ?_
      intro w H K hK
      refine wp_alloc_sl 38 rfl info_opz H (fun O w' H _ => ?_)
      refine hK _ _ _ (.inr (.inl ((Imp.refl _).more _))) H ?_
      clear hK K H
      try simp only [nrm]
      refine wpS_next hOps rfl rfl ?_
      intro w H K hK
      refine wp_store_row_sl 38 _ _ rfl (b := O) (cells := OO.cells.toArray) rfl rfl (by rw [List.size_toArray, HOL.out]; exact info_op) (op_one HOO.out) 0 H rfl (by simp only [List.size_toArray]; rfl) (fun w' H => ?_)
      replace H : At w0 (raw O OO.cells.toArray 38 :: nodeo p mb S :: nodeo p2 mb2 S :: F) w' := H
      refine hK _ _ _ (.inr (.inr pk)) H ?_
      clear hK K H
      try simp only [nrm]
      refine wpS_end (fun w H => ?_)
      clear hOps ops
      go_wp2_with ((with_reducible refine wpList_op rfl ?_); intro _ hK; (refine dst_is 67 rfl ?_; refine wp_mid 38 _ rfl rfl OO.cells (by kernel_rfl) (by rw [HOL.out]; exact info_op) (at_blk H 0 rfl) (hK _ _ (Stop.go ?_))))
      refine Stop.un ?_
      go_wp2_with fail
      refine (HBL.out _ _ H).mono ?_; rintro e w' ⟨vx, rfl, H⟩
      go_wp2_with ((with_reducible refine wpList_op rfl ?_); intro _ hK; (refine dst_is 70 rfl ?_; refine wp_mid 38 _ rfl rfl OO.cells (by kernel_rfl) (by rw [HOL.out]; exact info_op) (at_blk H 1 rfl) (hK _ _ (Stop.go ?_))))
      refine Stop.un ?_
      go_wp2_with fail
      refine (HBL.out _ _ H).mono ?_; rintro e w' ⟨vy, rfl, H⟩
      replace H : At w0 (nodeo p mb S :: byt 5 vx BB :: byt 5 vy BB :: nodeo p2 mb2 S :: F) w' := ((((((H).pull 2 rfl).pull 4 rfl).pull 2 rfl).pull 3 rfl).pull 4 rfl).maskR [true, true, true, true, false]
      go_wp2_with fail
      refine (HTK.out _ _ _ _ _ H (see_byt 1 rfl _ H)).mono ?_; rintro e w' ⟨rfl, H⟩
      replace H : At w0 (nodeo p2 mb2 S :: byt 5 vx BB :: byt 5 vy BB :: nodeo p mb T :: F) w' := ((((H).pull 2 rfl).pull 2 rfl).pull 3 rfl)
      go_wp2_with fail
      refine (HTK.out _ _ _ _ _ H (see_byt 2 rfl _ H)).mono ?_; rintro e w' ⟨rfl, H⟩
      obtain ⟨B, cap, fr, r, ⟨rfl, hcap, hfr⟩, H⟩ := byt_open (H.pull 1 rfl)
      replace H : At w0 (one B (.cells (v8 BB ++ r).toArray 5 fr) :: nodeo p mb T :: nodeo p2 mb2 T :: F) w' := (((((H).pull 2 rfl).pull 2 rfl).pull 3 rfl).pull 3 rfl).maskR [true, true, true, false]
      rw [HBB.out]
      have HFR := Lib.hid (show 614 ≤ fr.1 by rw [List.length_append, v8_length, HBB.out] at hfr; omega)
      clear hcap hfr
      go_wp2_with fail
      go_loopw [14] (fun k wr => ∃ (i : Nat) (bs : Bytes), i ≤ 614 ∧ k = .int .i64 i ∧ bs.length = 614 ∧ At w0 (one B (.cells (v8 bs ++ r).toArray 5 fr) :: nodeo p mb T :: nodeo p2 mb2 T :: F) wr) (fun k _ => 614 - (intOf k).toNat)
      case atStart => exact ⟨0, BB, by omega, rfl, HBB.out, H⟩
      case round =>
       clear H
       obtain ⟨i, bs, hi, rfl, hbl, H⟩ := hrel
       have HBS := Lib.hid hbl
       by_cases g3 : (i : Int) < 614
       · have HI := Lib.hid (show i < 614 by omega)
         have hib := Lib.hid (show i < bs.length by rw [hbl]; omega)
         clear hbl hi
         go_wp2_with ((with_reducible refine wpList_op rfl ?_); intro _ hK; (refine sto_is 92 rfl ?_; refine wp_store_fr 5 _ _ rfl (off := i) (v := .int .u8 (iv (7 : BitVec 8))) rfl rfl (by kernel_rfl) rfl H (by rw [List.size_toArray, List.length_append, v8_length]; have := hib.out; omega) (by have := HFR.out; have := HI.out; omega) (fun w' H => hK _ _ (Stop.go ?_))))
         refine Stop.un ?_
         rw [byte_set hib.out] at H
         go_wp2_with fail
         first
          | (refine ⟨?_, ?measure⟩; iterate 220 (try apply Exists.intro); refine ⟨?rel, rfl⟩)
          | refine ⟨?rel, ?measure⟩
         case rel => exact ⟨i + 1, _, by have := HI.out; omega, rfl, by rw [List.length_set]; exact HBS.out, H⟩
         case measure => have := HI.out; simp [intOf]; omega
       · clear hbl hi HBS
         replace H : At w0 (nodeo p mb T :: nodeo p2 mb2 T :: F) _ := H.tail
         go_wp2_with fail
         first
          | (refine ⟨?_, ?measure⟩; iterate 220 (try apply Exists.intro); refine ⟨?rel, rfl⟩)
          | refine ⟨?rel, ?measure⟩
         case rel => exact ⟨j + 1, T, by have := HJ6.out; omega, by first | rfl | rw [e5], HTO.out, HTL.out, HTS.out, H⟩
         case measure => have := HJ6.out; (try rw [e5]); simp [intOf]; omega
    · obtain ⟨n20, hn20⟩ : ∃ n20, n20 = n + 20 := ⟨_, rfl⟩
      have e20 : IntKind.u64.wrap ((n : Int) + 20) = (n20 : Int) := by have := HN.out; rw [IntKind.wrap_u64]; omega
      have HN20 := Lib.hid hn20
      have HOK9 := Lib.hid (show S.ok 10 10 from HOK.out.mono HJ.out HJ.out)
      clear hn20
      go_wp2_with fail
      go_loopw [15] (fun tv wr => ∃ (tt : Nat) (T : NodeD), n ≤ tt ∧ tt ≤ n20 ∧ tv = .int .u64 (tt : Int) ∧ T.ok 10 (10 + 64 * (tt - n)) ∧ (∀ t ∈ T.hp, t.1 ≤ ((n + 15 : Nat) : Int)) ∧ (n + 16 ≤ tt → T.hp = []) ∧ At w0 (nodeo p mb T :: nodeo p2 mb2 T :: F) wr) (fun tv _ => n20 - (intOf tv).toNat)
      case atStart => exact ⟨n, S, by omega, by have := HN20.out; omega, rfl, HOK9.out.mono (by omega) (by omega), HSO.out, fun h => by omega, H⟩
      case round =>
       clear H
       obtain ⟨tt, T, h1, h2, rfl, hok, hso, hem, H⟩ := hrel
       have HTT := Lib.hid (And.intro h1 h2)
       have HTO := Lib.hid hok
       have HTS := Lib.hid hso
       have HTE := Lib.hid hem
       clear h1 h2 hok hso hem
       by_cases g4 : (tt : Int) < (n20 : Int)
       · have HT4 := Lib.hid (show tt < n20 by omega)
         obtain ⟨T1, hT1⟩ : ∃ T1, T1 = T.tick tt := ⟨_, rfl⟩
         obtain ⟨TO, hTO⟩ : ∃ TO, TO = T.tickO tt := ⟨_, rfl⟩
         have HT1 := Lib.hid (show T1.ok 10 (10 + 64 * (tt + 1 - n)) by rw [hT1]; exact (NodeD.tick_ok HTO.out tt).mono (by omega) (by have := HTT.out; omega))
         have HT2 := Lib.hid (show ∀ t ∈ T1.hp, t.1 ≤ ((n + 15 : Nat) : Int) by rw [hT1]; exact fun t h => HTS.out t (NodeD.tick_sub t h))
         have HT3 := Lib.hid (show n + 16 ≤ tt + 1 → T1.hp = [] by rw [hT1]; exact fun h => NodeD.tick_all fun t ht => by have := HTS.out t ht; omega)
         have HLEN := Lib.hid (show ∀ y ∈ TO, y.2.length = 614 by rw [hTO]; exact NodeD.tickO_len T tt)
         have HTL := Lib.hid (show TO.length ≤ 64 by
          have := HTO.out.len; have := HTO.out.room
          rw [hTO]
          exact Nat.le_trans (NodeD.tickO_le T tt) (by omega))
         have HTK := Lib.hid (fun (p mb : Nat) (F : List SP) (w : World) (H : At w0 (nodeo p mb T :: F) w) => ntick_c H HTO.out (by have := HTT.out; have := HN20.out; omega) (now := tt) (by have := HTT.out; have := HN20.out; have := HN.out; omega))
         simp only [← hT1, ← hTO] at HTK
         have e21 : IntKind.u64.wrap ((tt : Int) + 1) = ((tt + 1 : Nat) : Int) := by have := HT4.out; have := HN20.out; have := HN.out; rw [IntKind.wrap_u64]; omega
         clear hT1 hTO
         go_wp2_with fail
         refine (HTK.out _ _ _ _ H).mono ?_; rintro e w' ⟨v1, rfl, H⟩
         obtain ⟨N, hN⟩ : ∃ N, N = TO.length := ⟨_, rfl⟩
         obtain ⟨a1, q1, rfl⟩ := out_slice H
         rw [← hN] at H ⊢
         go_wp2_with fail
         refine (HTK.out _ _ _ _ (H.pull 2 rfl)).mono ?_; rintro e w' ⟨v2, rfl, H⟩
         obtain ⟨a2, q2, rfl⟩ := out_slice H
         rw [← hN] at H ⊢
         obtain ⟨xs2, hf2, H⟩ := out_open H
         obtain ⟨xs1, hf1, H⟩ := out_open (H.pull 3 rfl)
         have hn1 : N = xs1.length := by rw [hN, hf1.len]
         have hn2 : N = xs2.length := by rw [hN, hf2.len]
         replace H : At w0 (lrow 66 2 outC (.slice a1 N q1) xs1 :: bag (List.zipWith outRow xs1 TO) :: lrow 66 2 outC (.slice a2 N q2) xs2 :: bag (List.zipWith outRow xs2 TO) :: nodeo p mb T1 :: nodeo p2 mb2 T1 :: F) w' := (((((((H).pull 4 rfl).pull 5 rfl).pull 5 rfl).pull 5 rfl).pull 5 rfl).pull 5 rfl)
         have HNL := Lib.hid hN
         have HN1x := Lib.hid hn1
         have HN2x := Lib.hid hn2
         have HF1 := Lib.hid hf1
         have HF2 := Lib.hid hf2
         clear hN hn1 hn2 hf1 hf2
         go_wp2_with fail
         go_loopw [18] (fun i wr => ∃ (k : Nat) (l1 : List (Nat × Bytes)), k ≤ N ∧ i = .int .i64 k ∧ outFit xs1 l1 ∧ (∀ u, k ≤ u → l1[u]? = TO[u]?) ∧ At w0 (lrow 66 2 outC (.slice a1 N q1) xs1 :: bag (List.zipWith outRow xs1 l1) :: lrow 66 2 outC (.slice a2 N q2) xs2 :: bag (List.zipWith outRow xs2 TO) :: nodeo p mb T1 :: nodeo p2 mb2 T1 :: F) wr) (fun i _ => N - (intOf i).toNat)
         case atStart => exact ⟨0, TO, by omega, rfl, HF1.out, fun _ _ => rfl, H⟩
         case round =>
          clear H
          obtain ⟨k, l1, hk, rfl, hfit, hsame, H⟩ := hrel
          by_cases g5 : (k : Int) < (N : Int)
          · obtain ⟨y, hy⟩ : ∃ y, TO[k]? = some y := ⟨_, List.getElem?_eq_getElem (by rw [← HNL.out]; omega)⟩
            have hy1 : l1[k]? = some y := (hsame k (Nat.le_refl k)).trans hy
            obtain ⟨x1, hx1, hx1a, hx1b⟩ := out_get hfit hy1
            obtain ⟨x2, hx2, hx2a, hx2b⟩ := out_get HF2.out hy
            have hs1 := see_out hx1 hy1 hx1b (H.pull 1 rfl)
            have hs2 := see_out hx2 hy hx2b (H.pull 3 rfl)
            obtain ⟨g1a, o1, rfl⟩ := lrow_place_n HN1x.out H 0 rfl (by omega)
            obtain ⟨g2a, o2, rfl⟩ := lrow_place_n HN2x.out H 2 rfl (by omega)
            have hylen := HLEN.out y (List.mem_of_getElem? hy)
            obtain ⟨c1a, c1q, e1s, _, hp1⟩ := hs1.slice
            obtain ⟨c2a, c2q, e2s, _, hp2⟩ := hs2.slice
            obtain ⟨c1b, c1o, rfl⟩ := hp1 (by omega)
            obtain ⟨c2b, c2o, rfl⟩ := hp2 (by omega)
            rw [hylen] at e1s e2s
            obtain ⟨yb, hyb⟩ : ∃ yb, yb = y.2 := ⟨_, rfl⟩
            rw [e1s, ← hyb] at hs1
            rw [e2s, ← hyb] at hs2
            have hc1n : (outC x1)[0]? = some (.int .u16 (y.1 : Int)) := by rw [← hx1a]; rfl
            have hc2n : (outC x2)[0]? = some (.int .u16 (y.1 : Int)) := by rw [← hx2a]; rfl
            have hc1b : (outC x1)[1]? = some (.slice (some ⟨c1b, c1o, none⟩) 614 c1q) := by rw [← e1s]; rfl
            have hc2b : (outC x2)[1]? = some (.slice (some ⟨c2b, c2o, none⟩) 614 c2q) := by rw [← e2s]; rfl
            have HS1a := Lib.hid hs1
            have HS2a := Lib.hid hs2
            have HA1 := Lib.hid (fun (F : List SP) (w : World) (hw : At w0 (lrow 66 2 outC (.slice (some ⟨g1a, o1, none⟩) N q1) xs1 :: F) w) => lrow_cell_n el_out HN1x.out hw 0 rfl hx1 hc1n)
            have HB1 := Lib.hid (fun (F : List SP) (w : World) (hw : At w0 (lrow 66 2 outC (.slice (some ⟨g1a, o1, none⟩) N q1) xs1 :: F) w) => lrow_cell_n el_out HN1x.out hw 0 rfl hx1 hc1b)
            have HA2 := Lib.hid (fun (F : List SP) (w : World) (hw : At w0 (lrow 66 2 outC (.slice (some ⟨g2a, o2, none⟩) N q2) xs2 :: F) w) => lrow_cell_n el_out HN2x.out hw 0 rfl hx2 hc2n)
            have HB2 := Lib.hid (fun (F : List SP) (w : World) (hw : At w0 (lrow 66 2 outC (.slice (some ⟨g2a, o2, none⟩) N q2) xs2 :: F) w) => lrow_cell_n el_out HN2x.out hw 0 rfl hx2 hc2b)
            have e9 : IntKind.i64.wrap ((k : Int) + 1) = ((k + 1 : Nat) : Int) := by have := HNL.out; have := HTL.out; rw [IntKind.wrap_i64]; omega
            have HN9 := Lib.hid (show k < N by omega)
            have hrow : (List.zipWith outRow xs1 l1)[k]? = some (outRow x1 y) := by rw [List.getElem?_zipWith, hx1, hy1]
            have HROW := Lib.hid hrow
            have hre : outRow x1 y = lrow 5 1 c8 (.slice (some ⟨c1b, c1o, none⟩) 614 c1q) yb := by unfold outRow; rw [e1s, hyb]
            have HRE := Lib.hid hre
            have hback : ∀ ys : Bytes, ys.length = 614 → List.set (List.zipWith outRow xs1 l1) k (lrow 5 1 c8 (.slice (some ⟨c1b, c1o, none⟩) 614 c1q) ys) = List.zipWith outRow xs1 (l1.set k (y.1, ys)) ∧ outFit xs1 (l1.set k (y.1, ys)) ∧ ∀ u, k + 1 ≤ u → (l1.set k (y.1, ys))[u]? = TO[u]? := fun ys hys => by
             refine ⟨?_, fit_set hfit hy1 rfl (hys.trans hylen.symm), fun u hu => ?_⟩
             · rw [← zip_set hx1]; unfold outRow; rw [e1s]
             · rw [List.getElem?_set_ne (by omega)]; exact hsame u (by omega)
            have HBK := Lib.hid hback
            have HYB := Lib.hid (show yb.length = 614 by rw [hyb]; exact hylen)
            have HKL := Lib.hid (show k < (List.zipWith outRow xs1 l1).length from (List.getElem?_eq_some_iff.1 hrow).1)
            obtain ⟨L1, hL1⟩ : ∃ L1, L1 = List.zipWith outRow xs1 l1 := ⟨_, rfl⟩
            rw [← hL1] at HS1a HROW HBK HKL H
            clear hy hy1 hx1 hx1a hx1b hx2 hx2a hx2b hs1 hs2 hylen e1s e2s hp1 hp2 hyb hc1n hc2n hc1b hc2b hk hfit hsame hrow hre hback hL1
            go_wp2_with fail
            refine wpS_begin [] (lrow 66 2 outC (.slice (some ⟨g1a, o1, none⟩) N q1) xs1 :: bag L1 :: lrow 66 2 outC (.slice (some ⟨g2a, o2, none⟩) N q2) xs2 :: bag (List.zipWith outRow xs2 TO) :: [nodeo p mb T1, nodeo p2 mb2 T1] ++ F) (.fr 0 (.fr 1 (.fr 2 (.fr 3 (.tk 4 (.fr 5 (.fr 6 (.fr 7 (.fr 8 (.tk 9 (.fr 10 (.fr 11 (.fr 12 (.fr 13 (.fr 14 (.fr 15 (.tk 16 (.tk 17 (.fr 18 (.fr 19 (.fr 20 (.fr 21 (.tk 22 (.tk 23 (.fr 24 (.fr 25 .nil)))))))))))))))))))))))))) rfl (by kernel_rfl) (by kernel_rfl) H ?_
            clear H
            intro ops hOps
            iterate 4 refine fs hOps ?_
            refine ts hOps (fun w hw => HA1.out _ _ hw) ?_
            iterate 4 refine fs hOps ?_
            refine ts hOps (fun w hw => HA2.out _ _ (hw.pull 2 rfl)) ?_
            iterate 6 refine fs hOps ?_
            refine ts hOps (fun w hw => HB1.out _ _ hw) ?_
            refine wpS_take hOps rfl (fun _ _ _ h => h) pk (GY.of_yields (yl rfl (fun w hw => exec_str_of (bs := yb) rfl under_bytesT under_u8T under_strT rfl hw (HS1a.out.weak (sub_at [_] _))))) ?_
            simp only [nrm]
            iterate 4 refine fs hOps ?_
            refine ts hOps (fun w hw => HB2.out _ _ (hw.pull 2 rfl)) ?_
            refine wpS_take hOps rfl (fun _ _ _ h => h) pk (GY.of_yields (yl rfl (fun w hw => exec_str_of (bs := yb) rfl under_bytesT under_u8T under_strT rfl hw (HS2a.out.weak (sub_at [_, _, _] _))))) ?_
            simp only [nrm]
            refine wpS_free hOps rfl (fun _ _ _ h => h) (yl rfl (fun w _ => exec_sneq_f (u := yb) (v := yb) rfl rfl rfl rfl w)) ?_
            simp only [nrm]
            refine fs hOps ?_
            refine wpS_end (fun w H => ?_)
            clear hOps ops
            replace H := (H.pull 1 rfl).bag_pull HROW.out
            rw [HRE.out] at H
            replace H : At w0 (lrow 5 1 c8 (.slice (some ⟨c1b, c1o, none⟩) 614 c1q) yb :: bag (L1.eraseIdx k) :: lrow 66 2 outC (.slice (some ⟨g1a, o1, none⟩) N q1) xs1 :: lrow 66 2 outC (.slice (some ⟨g2a, o2, none⟩) N q2) xs2 :: bag (List.zipWith outRow xs2 TO) :: nodeo p mb T1 :: nodeo p2 mb2 T1 :: F) _ := H
            go_wp2_with fail
            go_loopw [19] (fun i wr => ∃ (u : Nat) (ys : Bytes), u ≤ 614 ∧ i = .int .i64 u ∧ ys.length = 614 ∧ At w0 (lrow 5 1 c8 (.slice (some ⟨c1b, c1o, none⟩) 614 c1q) ys :: bag (L1.eraseIdx k) :: lrow 66 2 outC (.slice (some ⟨g1a, o1, none⟩) N q1) xs1 :: lrow 66 2 outC (.slice (some ⟨g2a, o2, none⟩) N q2) xs2 :: bag (List.zipWith outRow xs2 TO) :: nodeo p mb T1 :: nodeo p2 mb2 T1 :: F) wr) (fun i _ => 614 - (intOf i).toNat)
            case atStart => exact ⟨0, yb, by omega, rfl, HYB.out, H⟩
            case round =>
             clear H
             obtain ⟨u, ys, hu, rfl, hys, H⟩ := hrel
             have HYS := Lib.hid hys
             by_cases g6 : (u : Int) < 614
             · have HU := Lib.hid (show u < 614 by omega)
               clear hu hys
               go_wp2_with ((with_reducible refine wpList_op rfl ?_); intro _ hK; (refine dst_is 148 rfl ?_; refine wp_get 33 _ rfl rfl (by kernel_rfl) (HB1.out _ _ (H.pull 2 rfl)) (hK _ _ (Stop.go ?_))))
               refine Stop.un ?_
               go_wp2_with ((with_reducible refine wpList_op rfl ?_); intro _ hK; first
                | (refine dst_is 157 rfl ?_; refine wp_get 33 _ rfl rfl (by kernel_rfl) (HB1.out _ _ (H.pull 2 rfl)) (hK _ _ ?_))
                | (refine sto_is 159 rfl ?_; refine wp_bstore _ _ rfl (i := u) (z := (9 : BitVec 8)) HYS.out.symm rfl rfl H HU.out (fun w' H => hK _ _ (Stop.go ?_))))
               refine Stop.un ?_
               go_wp2_with fail
               first
                | (refine ⟨?_, ?measure⟩; iterate 220 (try apply Exists.intro); refine ⟨?rel, rfl⟩)
                | refine ⟨?rel, ?measure⟩
               case rel => exact ⟨u + 1, _, by have := HU.out; omega, rfl, by rw [List.length_set]; exact HYS.out, H⟩
               case measure => have := HU.out; simp [intOf]; omega
             · clear hu hys
               obtain ⟨hb1, hb2, hb3⟩ := HBK.out ys HYS.out
               have HB2x := Lib.hid hb2
               have HB3x := Lib.hid hb3
               go_wp2_with ((with_reducible refine wpList_op rfl ?_); intro _ hK; (refine dst_is 148 rfl ?_; refine wp_get 33 _ rfl rfl (by kernel_rfl) (HB1.out _ _ (H.pull 2 rfl)) (hK _ _ (Stop.go ?_))))
               refine Stop.un ?_
               replace H := H.bag_put HKL.out
               rw [hb1] at H
               replace H := H.pull 1 rfl
               clear hb1 hb2 hb3
               go_wp2_with fail
               first
                | (refine ⟨?_, ?measure⟩; iterate 220 (try apply Exists.intro); refine ⟨?rel, rfl⟩)
                | refine ⟨?rel, ?measure⟩
               case rel => exact ⟨k + 1, _, by have := HN9.out; omega, by first | rfl | rw [e9], HB2x.out, HB3x.out, H⟩
               case measure => have := HN9.out; (try rw [e9]); simp [intOf]; omega
          · clear hk hfit hsame
            replace H : At w0 (nodeo p mb T1 :: nodeo p2 mb2 T1 :: F) _ := H.maskR [false, false, false, false]
            go_wp2_with fail
            first
             | (refine ⟨?_, ?measure⟩; iterate 220 (try apply Exists.intro); refine ⟨?rel, rfl⟩)
             | refine ⟨?rel, ?measure⟩
            case rel => exact ⟨tt + 1, T1, by have := HTT.out; omega, by have := HT4.out; omega, by first | rfl | rw [e21], HT1.out, HT2.out, HT3.out, H⟩
            case measure => have := HT4.out; (try rw [e21]); simp [intOf]; omega
       · have hnil : T.hp = [] := HTE.out (by have := HTT.out; have := HN20.out; omega)
         have HNIL := Lib.hid (show T.hp.length = 0 by rw [hnil]; rfl)
         have hdl := Lib.hid HTO.out.dlen
         have hfd := Lib.hid (fits_drops (l := T.drops) fun d hd => by have := HTO.out.drops d hd; have := HTT.out; have := HN20.out; omega)
         rw [hdl.out] at hfd
         clear hnil
         go_wp2_with fail
         refine (nlen_c H).mono ?_; rintro e w' ⟨rfl, rfl⟩
         rw [HNIL.out]
         go_wp2_with fail
         refine (nlen_c (H.pull 1 rfl)).mono ?_; rintro e w' ⟨rfl, rfl⟩
         rw [HNIL.out]
         go_wp2_with fail
         refine (ndrops_c H hdl.out).mono ?_; rintro e w' ⟨rfl, H⟩
         go_wp2_with fail
         refine (ndrops_c (H.pull 1 rfl) hdl.out).mono ?_; rintro e w' ⟨rfl, H⟩
         go_wp2_with ((refine wpList_opif (by rfl) ?_); intro _ hK; (refine dst_is 176 rfl ?_; refine wp_run (exec_eql13 rfl rfl rfl hfd.out _) (hK _ _ (Stop.go ?_))))
         refine Stop.un ?_
         go_wp2_with fail
         go_ret
         exact ⟨rfl, H.maskR [false, false]⟩
  · obtain ⟨n20, hn20⟩ : ∃ n20, n20 = n + 20 := ⟨_, rfl⟩
    have e20 : IntKind.u64.wrap ((n : Int) + 20) = (n20 : Int) := by have := HN.out; rw [IntKind.wrap_u64]; omega
    have HN20 := Lib.hid hn20
    have HOK9 := Lib.hid (show S.ok 10 10 from HOK.out.mono HJ.out HJ.out)
    clear hn20
    go_wp2_with fail
    go_loopw [15] (fun tv wr => ∃ (tt : Nat) (T : NodeD), n ≤ tt ∧ tt ≤ n20 ∧ tv = .int .u64 (tt : Int) ∧ T.ok 10 (10 + 64 * (tt - n)) ∧ (∀ t ∈ T.hp, t.1 ≤ ((n + 15 : Nat) : Int)) ∧ (n + 16 ≤ tt → T.hp = []) ∧ At w0 (nodeo p mb T :: nodeo p2 mb2 T :: F) wr) (fun tv _ => n20 - (intOf tv).toNat)
    case atStart => exact ⟨n, S, by omega, by have := HN20.out; omega, rfl, HOK9.out.mono (by omega) (by omega), HSO.out, fun h => by omega, H⟩
    case round =>
     clear H
     obtain ⟨tt, T, h1, h2, rfl, hok, hso, hem, H⟩ := hrel
     have HTT := Lib.hid (And.intro h1 h2)
     have HTO := Lib.hid hok
     have HTS := Lib.hid hso
     have HTE := Lib.hid hem
     clear h1 h2 hok hso hem
     by_cases g4 : (tt : Int) < (n20 : Int)
     · have HT4 := Lib.hid (show tt < n20 by omega)
       obtain ⟨T1, hT1⟩ : ∃ T1, T1 = T.tick tt := ⟨_, rfl⟩
       obtain ⟨TO, hTO⟩ : ∃ TO, TO = T.tickO tt := ⟨_, rfl⟩
       have HT1 := Lib.hid (show T1.ok 10 (10 + 64 * (tt + 1 - n)) by rw [hT1]; exact (NodeD.tick_ok HTO.out tt).mono (by omega) (by have := HTT.out; omega))
       have HT2 := Lib.hid (show ∀ t ∈ T1.hp, t.1 ≤ ((n + 15 : Nat) : Int) by rw [hT1]; exact fun t h => HTS.out t (NodeD.tick_sub t h))
       have HT3 := Lib.hid (show n + 16 ≤ tt + 1 → T1.hp = [] by rw [hT1]; exact fun h => NodeD.tick_all fun t ht => by have := HTS.out t ht; omega)
       have HLEN := Lib.hid (show ∀ y ∈ TO, y.2.length = 614 by rw [hTO]; exact NodeD.tickO_len T tt)
       have HTL := Lib.hid (show TO.length ≤ 64 by
        have := HTO.out.len; have := HTO.out.room
        rw [hTO]
        exact Nat.le_trans (NodeD.tickO_le T tt) (by omega))
       have HTK := Lib.hid (fun (p mb : Nat) (F : List SP) (w : World) (H : At w0 (nodeo p mb T :: F) w) => ntick_c H HTO.out (by have := HTT.out; have := HN20.out; omega) (now := tt) (by have := HTT.out; have := HN20.out; have := HN.out; omega))
       simp only [← hT1, ← hTO] at HTK
       have e21 : IntKind.u64.wrap ((tt : Int) + 1) = ((tt + 1 : Nat) : Int) := by have := HT4.out; have := HN20.out; have := HN.out; rw [IntKind.wrap_u64]; omega
       clear hT1 hTO
       go_wp2_with fail
       refine (HTK.out _ _ _ _ H).mono ?_; rintro e w' ⟨v1, rfl, H⟩
       obtain ⟨N, hN⟩ : ∃ N, N = TO.length := ⟨_, rfl⟩
       obtain ⟨a1, q1, rfl⟩ := out_slice H
       rw [← hN] at H ⊢
       go_wp2_with fail
       refine (HTK.out _ _ _ _ (H.pull 2 rfl)).mono ?_; rintro e w' ⟨v2, rfl, H⟩
       obtain ⟨a2, q2, rfl⟩ := out_slice H
       rw [← hN] at H ⊢
       obtain ⟨xs2, hf2, H⟩ := out_open H
       obtain ⟨xs1, hf1, H⟩ := out_open (H.pull 3 rfl)
       have hn1 : N = xs1.length := by rw [hN, hf1.len]
       have hn2 : N = xs2.length := by rw [hN, hf2.len]
       replace H : At w0 (lrow 66 2 outC (.slice a1 N q1) xs1 :: bag (List.zipWith outRow xs1 TO) :: lrow 66 2 outC (.slice a2 N q2) xs2 :: bag (List.zipWith outRow xs2 TO) :: nodeo p mb T1 :: nodeo p2 mb2 T1 :: F) w' := (((((((H).pull 4 rfl).pull 5 rfl).pull 5 rfl).pull 5 rfl).pull 5 rfl).pull 5 rfl)
       have HNL := Lib.hid hN
       have HN1x := Lib.hid hn1
       have HN2x := Lib.hid hn2
       have HF1 := Lib.hid hf1
       have HF2 := Lib.hid hf2
       clear hN hn1 hn2 hf1 hf2
       go_wp2_with fail
       go_loopw [18] (fun i wr => ∃ (k : Nat) (l1 : List (Nat × Bytes)), k ≤ N ∧ i = .int .i64 k ∧ outFit xs1 l1 ∧ (∀ u, k ≤ u → l1[u]? = TO[u]?) ∧ At w0 (lrow 66 2 outC (.slice a1 N q1) xs1 :: bag (List.zipWith outRow xs1 l1) :: lrow 66 2 outC (.slice a2 N q2) xs2 :: bag (List.zipWith outRow xs2 TO) :: nodeo p mb T1 :: nodeo p2 mb2 T1 :: F) wr) (fun i _ => N - (intOf i).toNat)
       case atStart => exact ⟨0, TO, by omega, rfl, HF1.out, fun _ _ => rfl, H⟩
       case round =>
        clear H
        obtain ⟨k, l1, hk, rfl, hfit, hsame, H⟩ := hrel
        by_cases g5 : (k : Int) < (N : Int)
        · obtain ⟨y, hy⟩ : ∃ y, TO[k]? = some y := ⟨_, List.getElem?_eq_getElem (by rw [← HNL.out]; omega)⟩
          have hy1 : l1[k]? = some y := (hsame k (Nat.le_refl k)).trans hy
          obtain ⟨x1, hx1, hx1a, hx1b⟩ := out_get hfit hy1
          obtain ⟨x2, hx2, hx2a, hx2b⟩ := out_get HF2.out hy
          have hs1 := see_out hx1 hy1 hx1b (H.pull 1 rfl)
          have hs2 := see_out hx2 hy hx2b (H.pull 3 rfl)
          obtain ⟨g1a, o1, rfl⟩ := lrow_place_n HN1x.out H 0 rfl (by omega)
          obtain ⟨g2a, o2, rfl⟩ := lrow_place_n HN2x.out H 2 rfl (by omega)
          have hylen := HLEN.out y (List.mem_of_getElem? hy)
          obtain ⟨c1a, c1q, e1s, _, hp1⟩ := hs1.slice
          obtain ⟨c2a, c2q, e2s, _, hp2⟩ := hs2.slice
          obtain ⟨c1b, c1o, rfl⟩ := hp1 (by omega)
          obtain ⟨c2b, c2o, rfl⟩ := hp2 (by omega)
          rw [hylen] at e1s e2s
          obtain ⟨yb, hyb⟩ : ∃ yb, yb = y.2 := ⟨_, rfl⟩
          rw [e1s, ← hyb] at hs1
          rw [e2s, ← hyb] at hs2
          have hc1n : (outC x1)[0]? = some (.int .u16 (y.1 : Int)) := by rw [← hx1a]; rfl
          have hc2n : (outC x2)[0]? = some (.int .u16 (y.1 : Int)) := by rw [← hx2a]; rfl
          have hc1b : (outC x1)[1]? = some (.slice (some ⟨c1b, c1o, none⟩) 614 c1q) := by rw [← e1s]; rfl
          have hc2b : (outC x2)[1]? = some (.slice (some ⟨c2b, c2o, none⟩) 614 c2q) := by rw [← e2s]; rfl
          have HS1a := Lib.hid hs1
          have HS2a := Lib.hid hs2
          have HA1 := Lib.hid (fun (F : List SP) (w : World) (hw : At w0 (lrow 66 2 outC (.slice (some ⟨g1a, o1, none⟩) N q1) xs1 :: F) w) => lrow_cell_n el_out HN1x.out hw 0 rfl hx1 hc1n)
          have HB1 := Lib.hid (fun (F : List SP) (w : World) (hw : At w0 (lrow 66 2 outC (.slice (some ⟨g1a, o1, none⟩) N q1) xs1 :: F) w) => lrow_cell_n el_out HN1x.out hw 0 rfl hx1 hc1b)
          have HA2 := Lib.hid (fun (F : List SP) (w : World) (hw : At w0 (lrow 66 2 outC (.slice (some ⟨g2a, o2, none⟩) N q2) xs2 :: F) w) => lrow_cell_n el_out HN2x.out hw 0 rfl hx2 hc2n)
          have HB2 := Lib.hid (fun (F : List SP) (w : World) (hw : At w0 (lrow 66 2 outC (.slice (some ⟨g2a, o2, none⟩) N q2) xs2 :: F) w) => lrow_cell_n el_out HN2x.out hw 0 rfl hx2 hc2b)
          have e9 : IntKind.i64.wrap ((k : Int) + 1) = ((k + 1 : Nat) : Int) := by have := HNL.out; have := HTL.out; rw [IntKind.wrap_i64]; omega
          have HN9 := Lib.hid (show k < N by omega)
          have hrow : (List.zipWith outRow xs1 l1)[k]? = some (outRow x1 y) := by rw [List.getElem?_zipWith, hx1, hy1]
          have HROW := Lib.hid hrow
          have hre : outRow x1 y = lrow 5 1 c8 (.slice (some ⟨c1b, c1o, none⟩) 614 c1q) yb := by unfold outRow; rw [e1s, hyb]
          have HRE := Lib.hid hre
          have hback : ∀ ys : Bytes, ys.length = 614 → List.set (List.zipWith outRow xs1 l1) k (lrow 5 1 c8 (.slice (some ⟨c1b, c1o, none⟩) 614 c1q) ys) = List.zipWith outRow xs1 (l1.set k (y.1, ys)) ∧ outFit xs1 (l1.set k (y.1, ys)) ∧ ∀ u, k + 1 ≤ u → (l1.set k (y.1, ys))[u]? = TO[u]? := fun ys hys => by
           refine ⟨?_, fit_set hfit hy1 rfl (hys.trans hylen.symm), fun u hu => ?_⟩
           · rw [← zip_set hx1]; unfold outRow; rw [e1s]
           · rw [List.getElem?_set_ne (by omega)]; exact hsame u (by omega)
          have HBK := Lib.hid hback
          have HYB := Lib.hid (show yb.length = 614 by rw [hyb]; exact hylen)
          have HKL := Lib.hid (show k < (List.zipWith outRow xs1 l1).length from (List.getElem?_eq_some_iff.1 hrow).1)
          obtain ⟨L1, hL1⟩ : ∃ L1, L1 = List.zipWith outRow xs1 l1 := ⟨_, rfl⟩
          rw [← hL1] at HS1a HROW HBK HKL H
          clear hy hy1 hx1 hx1a hx1b hx2 hx2a hx2b hs1 hs2 hylen e1s e2s hp1 hp2 hyb hc1n hc2n hc1b hc2b hk hfit hsame hrow hre hback hL1
          go_wp2_with fail
          refine wpS_begin [] (lrow 66 2 outC (.slice (some ⟨g1a, o1, none⟩) N q1) xs1 :: bag L1 :: lrow 66 2 outC (.slice (some ⟨g2a, o2, none⟩) N q2) xs2 :: bag (List.zipWith outRow xs2 TO) :: [nodeo p mb T1, nodeo p2 mb2 T1] ++ F) (.fr 0 (.fr 1 (.fr 2 (.fr 3 (.tk 4 (.fr 5 (.fr 6 (.fr 7 (.fr 8 (.tk 9 (.fr 10 (.fr 11 (.fr 12 (.fr 13 (.fr 14 (.fr 15 (.tk 16 (.tk 17 (.fr 18 (.fr 19 (.fr 20 (.fr 21 (.tk 22 (.tk 23 (.fr 24 (.fr 25 .nil)))))))))))))))))))))))))) rfl (by kernel_rfl) (by kernel_rfl) H ?_
          clear H
          intro ops hOps
          iterate 4 refine fs hOps ?_
          refine ts hOps (fun w hw => HA1.out _ _ hw) ?_
          iterate 4 refine fs hOps ?_
          refine ts hOps (fun w hw => HA2.out _ _ (hw.pull 2 rfl)) ?_
          iterate 6 refine fs hOps ?_
          refine ts hOps (fun w hw => HB1.out _ _ hw) ?_
          refine wpS_take hOps rfl (fun _ _ _ h => h) pk (GY.of_yields (yl rfl (fun w hw => exec_str_of (bs := yb) rfl under_bytesT under_u8T under_strT rfl hw (HS1a.out.weak (sub_at [_] _))))) ?_
          simp only [nrm]
          iterate 4 refine fs hOps ?_
          refine ts hOps (fun w hw => HB2.out _ _ (hw.pull 2 rfl)) ?_
          refine wpS_take hOps rfl (fun _ _ _ h => h) pk (GY.of_yields (yl rfl (fun w hw => exec_str_of (bs := yb) rfl under_bytesT under_u8T under_strT rfl hw (HS2a.out.weak (sub_at [_, _, _] _))))) ?_
          simp only [nrm]
          refine wpS_free hOps rfl (fun _ _ _ h => h) (yl rfl (fun w _ => exec_sneq_f (u := yb) (v := yb) rfl rfl rfl rfl w)) ?_
          simp only [nrm]
          refine fs hOps ?_
          refine wpS_end (fun w H => ?_)
          clear hOps ops
          replace H := (H.pull 1 rfl).bag_pull HROW.out
          rw [HRE.out] at H
          replace H : At w0 (lrow 5 1 c8 (.slice (some ⟨c1b, c1o, none⟩) 614 c1q) yb :: bag (L1.eraseIdx k) :: lrow 66 2 outC (.slice (some ⟨g1a, o1, none⟩) N q1) xs1 :: lrow 66 2 outC (.slice (some ⟨g2a, o2, none⟩) N q2) xs2 :: bag (List.zipWith outRow xs2 TO) :: nodeo p mb T1 :: nodeo p2 mb2 T1 :: F) _ := H
          go_wp2_with fail
          go_loopw [19] (fun i wr => ∃ (u : Nat) (ys : Bytes), u ≤ 614 ∧ i = .int .i64 u ∧ ys.length = 614 ∧ At w0 (lrow 5 1 c8 (.slice (some ⟨c1b, c1o, none⟩) 614 c1q) ys :: bag (L1.eraseIdx k) :: lrow 66 2 outC (.slice (some ⟨g1a, o1, none⟩) N q1) xs1 :: lrow 66 2 outC (.slice (some ⟨g2a, o2, none⟩) N q2) xs2 :: bag (List.zipWith outRow xs2 TO) :: nodeo p mb T1 :: nodeo p2 mb2 T1 :: F) wr) (fun i _ => 614 - (intOf i).toNat)
          case atStart => exact ⟨0, yb, by omega, rfl, HYB.out, H⟩
          case round =>
           clear H
           obtain ⟨u, ys, hu, rfl, hys, H⟩ := hrel
           have HYS := Lib.hid hys
           by_cases g6 : (u : Int) < 614
           · have HU := Lib.hid (show u < 614 by omega)
             clear hu hys
             go_wp2_with ((with_reducible refine wpList_op rfl ?_); intro _ hK; (refine dst_is 148 rfl ?_; refine wp_get 33 _ rfl rfl (by kernel_rfl) (HB1.out _ _ (H.pull 2 rfl)) (hK _ _ (Stop.go ?_))))
             refine Stop.un ?_
             go_wp2_with ((with_reducible refine wpList_op rfl ?_); intro _ hK; first
              | (refine dst_is 157 rfl ?_; refine wp_get 33 _ rfl rfl (by kernel_rfl) (HB1.out _ _ (H.pull 2 rfl)) (hK _ _ ?_))
              | (refine sto_is 159 rfl ?_; refine wp_bstore _ _ rfl (i := u) (z := (9 : BitVec 8)) HYS.out.symm rfl rfl H HU.out (fun w' H => hK _ _ (Stop.go ?_))))
             refine Stop.un ?_
             go_wp2_with fail
             first
              | (refine ⟨?_, ?measure⟩; iterate 220 (try apply Exists.intro); refine ⟨?rel, rfl⟩)
              | refine ⟨?rel, ?measure⟩
             case rel => exact ⟨u + 1, _, by have := HU.out; omega, rfl, by rw [List.length_set]; exact HYS.out, H⟩
             case measure => have := HU.out; simp [intOf]; omega
           · clear hu hys
             obtain ⟨hb1, hb2, hb3⟩ := HBK.out ys HYS.out
             have HB2x := Lib.hid hb2
             have HB3x := Lib.hid hb3
             go_wp2_with ((with_reducible refine wpList_op rfl ?_); intro _ hK; (refine dst_is 148 rfl ?_; refine wp_get 33 _ rfl rfl (by kernel_rfl) (HB1.out _ _ (H.pull 2 rfl)) (hK _ _ (Stop.go ?_))))
             refine Stop.un ?_
             replace H := H.bag_put HKL.out
             rw [hb1] at H
             replace H := H.pull 1 rfl
             clear hb1 hb2 hb3
             go_wp2_with fail
             first
              | (refine ⟨?_, ?measure⟩; iterate 220 (try apply Exists.intro); refine ⟨?rel, rfl⟩)
              | refine ⟨?rel, ?measure⟩
             case rel => exact ⟨k + 1, _, by have := HN9.out; omega, by first | rfl | rw [e9], HB2x.out, HB3x.out, H⟩
             case measure => have := HN9.out; (try rw [e9]); simp [intOf]; omega
        · clear hk hfit hsame
          replace H : At w0 (nodeo p mb T1 :: nodeo p2 mb2 T1 :: F) _ := H.maskR [false, false, false, false]
          go_wp2_with fail
          first
           | (refine ⟨?_, ?measure⟩; iterate 220 (try apply Exists.intro); refine ⟨?rel, rfl⟩)
           | refine ⟨?rel, ?measure⟩
          case rel => exact ⟨tt + 1, T1, by have := HTT.out; omega, by have := HT4.out; omega, by first | rfl | rw [e21], HT1.out, HT2.out, HT3.out, H⟩
          case measure => have := HT4.out; (try rw [e21]); simp [intOf]; omega
     · have hnil : T.hp = [] := HTE.out (by have := HTT.out; have := HN20.out; omega)
       have HNIL := Lib.hid (show T.hp.length = 0 by rw [hnil]; rfl)
       have hdl := Lib.hid HTO.out.dlen
       have hfd := Lib.hid (fits_drops (l := T.drops) fun d hd => by have := HTO.out.drops d hd; have := HTT.out; have := HN20.out; omega)
       rw [hdl.out] at hfd
       clear hnil
       go_wp2_with fail
       refine (nlen_c H).mono ?_; rintro e w' ⟨rfl, rfl⟩
       rw [HNIL.out]
       go_wp2_with fail
       refine (nlen_c (H.pull 1 rfl)).mono ?_; rintro e w' ⟨rfl, rfl⟩
       rw [HNIL.out]
       go_wp2_with fail
       refine (ndrops_c H hdl.out).mono ?_; rintro e w' ⟨rfl, H⟩
       go_wp2_with fail
       refine (ndrops_c (H.pull 1 rfl) hdl.out).mono ?_; rintro e w' ⟨rfl, H⟩
       go_wp2_with ((refine wpList_opif (by rfl) ?_); intro _ hK; (refine dst_is 176 rfl ?_; refine wp_run (exec_eql13 rfl rfl rfl hfd.out _) (hK _ _ (Stop.go ?_))))
       refine Stop.un ?_
       go_wp2_with fail
       go_ret
       exact ⟨rfl, H.maskR [false, false]⟩
theorem nodeOwn_walk {W : World} {b : Int} {v : Value} (G : Glob W) (h : ∃ ops : List OpO, SeeL 15 opC W [] v ops ∧ ∀ x ∈ ops, ∃ bs, SeeB W [] x.1.b bs) (hb : (Lit.int .u64 b).wf = true) :
    Calls Tryz.prog 10 #[v, .int .u64 b] W fun e w' => e = .returned (.bool true) ∧ Below W.heap.size W w' := by
 obtain ⟨z, hz, rfl⟩ := u64_nat hb
 obtain ⟨ops, h1, h2⟩ := h
 exact (nodeOwn_c G (At.start W) h1 hz).mono fun _ _ h => ⟨h.1, h.2.below⟩
theorem nodeOwn_own : ownKnob Tryz.prog.godebug = none := by kernel_rfl
theorem nodeOwn_laidout : laidOutB Tryz.prog = true := by kernel_rfl
set_option maxRecDepth 100000 in
theorem nodeOwn_contract (H : Type) (enc : TypeId × Value → H) (W : World) (base : Nat) (args : Array Value) (ds gs : List (DataW H)) (before : List MemPlace)
    (hval : ∀ (j : Nat) t v, Tryz.f10.params[j]? = some t → args[j]? = some v → Value.okWide Tryz.prog W .any base t v)
    (hW : DataW.Whole enc Tryz.prog Tryz.f10.params.toList Rows.nodeOwnSpec.vars false W args.toList ds gs before) (hL : laidMetH Tryz.prog Rows.nodeOwnRow.laid W) :
    Calls Tryz.prog 10 args W fun e W' => ∃ v, e = .returned v ∧ Rows.nodeOwnSpec.post enc Tryz.prog Tryz.f10 false true false false W args v W' := by
 have G : Glob W := glob_of_laid hL
 have hW' := hW
 obtain ⟨p, q, hA0, hV, rfl, hfz, hnd⟩ := hW
 have hA : DataW.TrodAll enc Tryz.prog W 0 (fun _ => true) true Tryz.f10.params.toList args.toList ds p := hA0
 rw [Tryz.params10] at hA hval
 obtain ⟨v0, vs0, d0, ds0, p0, q0, hargs, rfl, rfl, h0, r0⟩ := trodAll_cons hA
 obtain ⟨v1, vs1, d1, ds1, p1, q1, rfl, rfl, rfl, h1, r1⟩ := trodAll_cons r0
 obtain ⟨rfl, rfl, rfl⟩ := trodAll_nil r1
 obtain rfl : args = #[v0, v1] := by cases args; simp_all
 obtain ⟨rfl, rfl⟩ := trodVars_none hV
 have k0 := h0
 have lt0 : ∀ x ∈ p0, x.block < W.heap.size := by obtain ⟨m, hm⟩ := k0; exact DataW.trod_lt m _ _ _ hm
 have k1 := h1
 have lt1 : ∀ x ∈ p1, x.block < W.heap.size := by obtain ⟨m, hm⟩ := k1; exact DataW.trod_lt m _ _ _ hm
 have f0 := open_ops (hval 0 23 v0 rfl rfl) h0
 obtain ⟨a1, rfl, rfl, rfl, f1⟩ := open_int Tryz.underlying22 (hval 1 22 v1 rfl rfl) h1
 clear hA0
 refine (nodeOwn_walk G f0 f1).mono fun e W' ⟨he, bel⟩ => ?_
 subst he
 exact ⟨_, rfl, _, _, _, [], _, [], hW', trodAll_mk1 (shut_bool Tryz.underlying4 _), (trodAll_cons_mk (Below.trod nodeOwn_laidout (by kernel_rfl) (of_decide_eq_true (by kernel_rfl)) k0 bel lt0) (trodAll_cons_mk (Below.trod nodeOwn_laidout (by kernel_rfl) (of_decide_eq_true (by kernel_rfl)) k1 bel lt1) trodAll_mk0)), rfl, bel.frame _, fun h => by cases h⟩
noncomputable def nodeOwn_wit : Array Value := #[.slice none 0 0, .int .u64 0]
theorem nodeOwn_met (os : Os) : laidMet Tryz.prog Rows.nodeOwnRow.laid ((laidWorld os).forCall (fun _ _ => 0) ⟨#[], nodeOwn_wit, []⟩).memory := laidMet_of_run' 8 (by kernel_rfl) (by kernel_rfl)
set_option maxRecDepth 100000 in
theorem nodeOwn_lifted (os : Os) (started : os.Started) (H : Type) (enc : TypeId × Value → H) (F : Stop.Interp) :
    ReturnsInHanded {} Tryz.checked os 10 .any ((OpenSpec.ofChange Rows.nodeOwnSpec).preRow enc Tryz.prog Tryz.f10 Rows.nodeOwnRow.domain false Rows.nodeOwnRow.laid) (((OpenSpec.ofChange Rows.nodeOwnSpec).at F).post enc Tryz.prog Tryz.f10 false true false false) := by
 obtain ⟨x, hx⟩ := Option.isSome_iff_exists.1 (show (DataW.whole enc Tryz.prog ((laidWorld os).forCall (fun _ _ => 0) ⟨#[], nodeOwn_wit, []⟩).memory Tryz.f10.params.toList Rows.nodeOwnSpec.vars false nodeOwn_wit.toList 8).isSome = true by kernel_rfl)
 refine returnsInHanded_of_row (C := Tryz.checked) (s := OpenSpec.ofChange Rows.nodeOwnSpec) nodeOwn_own started (by kernel_rfl) Tryz.func10
  (witness_row_at (enc := enc) (C := Tryz.checked) false (laidWorld os) nodeOwn_wit rfl (by kernel_rfl) (by kernel_rfl) (by kernel_rfl)
   (OpenSpec.preRow_of_cond 8 hx (by kernel_rfl) (fun k hk => by cases hk) (by kernel_rfl) (nodeOwn_met os))) ?_
 intro W base args ds gs before hval hW _ _ _ hL _ _
 exact nodeOwn_contract H enc W base args ds gs before hval hW hL
theorem nodeOwn_said : Rows.NodeOwnSaid :=
 OpenClaim.holds_of_cond 10 Tryz.f10 rfl rfl rfl rfl rfl rfl rfl ⟨rfl, rfl, rfl, rfl, rfl⟩ rfl rfl rfl rfl rfl (by kernel_rfl) Tryz.func10 (by kernel_rfl)
  (of_decide_eq_true (by kernel_rfl)) (by unfold Func.isWrapper; first | (rw [if_pos (by decide +kernel)]; kernel_rfl) | (rw [if_neg (by decide +kernel)]; exact ⟨rfl, rfl⟩))
  (fun os started H enc _ F => by rw [OpenClaim.pre_eq_preRow]; exact nodeOwn_lifted os started H enc F)
theorem nodeOwn_plain (f : FuncId) (fn : Func) (hf : Tryz.pinned.checked.prog.funcNamed "hourglass/hourglasslaw17.NodeOwn" = some f) (hfn : Tryz.pinned.checked.prog.funcs[f]? = some fn) :
    false = Tryz.pinned.checked.prog.looks [] ∧ ∀ (j : Nat) t, fn.params[j]? = some t → Tryz.pinned.checked.prog.wantsStandIn t = false := by
 obtain rfl : f = 10 := Option.some.inj ((show Tryz.prog.funcNamed "hourglass/hourglasslaw17.NodeOwn" = some 10 by kernel_rfl).symm.trans hf) |>.symm
 obtain rfl : fn = Tryz.f10 := (Option.some.inj (Tryz.func10.symm.trans hfn)).symm
 refine ⟨by kernel_rfl, fun j t ht => ?_⟩
 have hall : ∀ t ∈ Tryz.f10.params, Tryz.prog.wantsStandIn t = false := by
  have h : (Tryz.f10.params.toList.all fun t => !Tryz.prog.wantsStandIn t) = true := by kernel_rfl
  intro t ht
  simpa using List.all_eq_true.1 h t (Array.mem_toList_iff.2 ht)
 exact hall t (Array.mem_of_getElem? ht)
theorem nodeOwn_holds : Rows.NodeOwnCardSaid :=
 Claim7.holds_tied_plain_at .later [] _ _ _ _ nodeOwn_said (fun _ h => by cases h) (by kernel_rfl) (fun _ h => by cases h) nodeOwn_row_tie rfl ⟨rfl, rfl⟩ (by kernel_rfl) rfl nodeOwn_plain (by kernel_rfl)
#print axioms nodeOwn_holds
end Go.Proofs.YtmflbekabkainaaGreatDoor
