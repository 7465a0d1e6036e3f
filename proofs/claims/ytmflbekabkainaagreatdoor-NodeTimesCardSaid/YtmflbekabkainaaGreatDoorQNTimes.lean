import Derived.Test.YtmflbekabkainaaGreatDoorQNFew
set_option linter.unusedVariables false
set_option linter.unusedSimpArgs false
namespace Go.Hg
open Go.RowKit
theorem fk_one (u : Thing) : fk [u] = 0 := by
 show (if _ then 0 else 0) = 0
 split <;> rfl
def oneWaits (a : Nat) (x : WtO) (t : Nat) : List Thing := if t ≤ a then [((a : Int), 0, x)] else []
theorem ticks_one {S : NodeD} {a t : Nat} {x : WtO} (hx : x.1.s.last = false) (h : S.hp = oneWaits a x t) : (S.tick t).hp = oneWaits a x (t + 1) ∧ S.tickO t = if t = a then [(x.1.s.next, packOf x.1.p)] else [] := by
 have he : (S.expire t).hp = S.hp := by unfold NodeD.expire; split <;> rfl
 obtain ⟨T, hT⟩ : ∃ T, T = S.expire t := ⟨_, rfl⟩
 unfold NodeD.tick NodeD.tickO
 rw [← hT] at he ⊢
 unfold oneWaits at h ⊢
 by_cases h1 : t ≤ a
 · rw [if_pos h1] at h
   rw [h, List.length_singleton]
   have hp : T.hp = [((a : Int), 0, x)] := by rw [he, h]
   by_cases h2 : t = a
   · have hb : popB T.hp (t : Int) = true := by rw [hp]; exact decide_eq_true ⟨by simp, by rw [fk_one]; show (a : Int) ≤ t; omega⟩
     have hk := fk_one ((a : Int), 0, x)
     have hxx : popX T.hp (t : Int) = x := by unfold popX; rw [if_pos hb, hp, hk]; rfl
     have hr : popR T.hp (t : Int) = [] := by unfold popR; rw [if_pos hb, hp, hk]; rfl
     rw [pops_true hb, popsO_true hb, if_neg (by omega), if_pos h2]
     have h3 : (T.pop t).hp = [] := by rw [NodeD.pop_hp, hr]
     refine ⟨?_, ?_⟩
     · show (NodeD.pops 0 (T.pop t) t).hp = []
       exact h3
     · show NodeD.popO T t ++ [] = _
       unfold NodeD.popO
       rw [hxx, hx]
       simp
   · have hb : ¬ popB T.hp (t : Int) = true := by
       rw [hp]
       intro hc
       have h9 := of_decide_eq_true hc
       rw [fk_one] at h9
       have h8 : (a : Int) ≤ t := h9.2
       omega
     rw [NodeD.pops, NodeD.popsO, if_neg hb, if_neg hb, if_pos (by omega), if_neg h2]
     exact ⟨hp, rfl⟩
 · rw [if_neg h1] at h
   rw [h, if_neg (by omega), if_neg (by omega)]
   exact ⟨by show T.hp = []; rw [he, h], rfl⟩
end Go.Hg
namespace Go.Proofs.YtmflbekabkainaaGreatDoor
open Go.ChangeShapes Go.WideShapes Go.ChangeAt Go.RowKit Go.Hg
theorem times_take {n d nx : Nat} {a b : Int} (hn : n < 1099511627776) (ha : 0 ≤ a ∧ a < 128) (hb : 0 ≤ b ∧ b < 128) (hd : d < 200) (hx : nx < 65536) :
    nodeF.takeE ((oG 0 a b d nx).built n) n = 0 ∧ ∃ x : WtO, x.1.s.last = false ∧ x.1.s.next = nx ∧ (nodeF.take ((oG 0 a b d nx).built n) n).hp = oneWaits (n + d) x n := by
 have ho := oG_ok (old := 0) (early := a) (late := b) (delay := d) (next := nx) (by omega) (by omega) (by omega) (by omega) (by omega)
 obtain ⟨x, P⟩ := OpD.peeled ho (now := n) (by omega)
 have e1 : (oG 0 a b d nx).epoch n = n / 1000 := by
  show (n / 1000 + 4294967296 - 0) % 4294967296 = _
  omega
 have e2 : (oG 0 a b d nx).lo n ≤ n := by
  show nearN n (-(max a (-127))) ≤ n
  unfold nearN
  split <;> omega
 have e3 : n ≤ (oG 0 a b d nx).hi n := by
  show n ≤ nearN n b
  unfold nearN
  split <;> omega
 have h0 : nodeF.takeE ((oG 0 a b d nx).built n) n = 0 := by
  rw [nodeF_take ho (by omega), e1, if_pos (by omega)]
  generalize (oG 0 a b d nx).lo n = l at *
  generalize (oG 0 a b d nx).hi n = h at *
  rw [if_neg (by omega), if_neg (by omega), if_neg (by omega)]
 refine ⟨h0, x, P.last, P.next rfl, ?_⟩
 rw [OpD.take_built ho (by omega) rfl P nodeF_look h0]
 unfold oneWaits
 rw [if_pos (by omega)]
 rfl
theorem and_127 {a : Nat} (h : a < 256) : bits BinOp.and IntKind.u8 (a : Int) 127 = ((a % 128 : Nat) : Int) := by
 have h1 : ((List.range 256).all fun a => bits BinOp.and IntKind.u8 (a : Int) 127 == ((a % 128 : Nat) : Int)) = true := by kernel_rfl
 have := List.all_eq_true.1 h1 a (List.mem_range.2 h)
 simpa using this
theorem wrap_i8 {a : Nat} (h : a < 128) : IntKind.i8.wrap (a : Int) = (a : Int) := by simp [IntKind.wrap, IntKind.bits, IntKind.signed]; omega
set_option maxRecDepth 20000 in
set_option maxHeartbeats 4000000 in
theorem nodeTimes_c {w0 w : World} {F : List SP} (G : Glob w0) (H : At w0 F w) {z d0 a0 b0 nx : Nat} (hz : z < 18446744073709551616) (hd0 : d0 < 4294967296) (ha0 : a0 < 256) (hb0 : b0 < 256) (hnx : nx < 65536) :
    Calls Tryz.prog 6 #[.int .u64 (z : Int), .int .u32 (d0 : Int), .int .u8 (a0 : Int), .int .u8 (b0 : Int), .int .u16 (nx : Int)] w fun e w' => e = .returned (.bool true) ∧ At w0 F w' := by
 obtain ⟨n, hn⟩ : ∃ n, n = z % 1099511627776 := ⟨_, rfl⟩
 have e1 : bits BinOp.and IntKind.u64 (z : Int) 1099511627775 = (n : Int) := by rw [hn]; exact and_40 z
 obtain ⟨d, hd⟩ : ∃ d, d = d0 % 200 := ⟨_, rfl⟩
 have e2 : (d0 : Int) % 200 = (d : Int) := by omega
 have HN := Lib.hid (show n < 1099511627776 by omega)
 have HD := Lib.hid (show d < 200 by omega)
 obtain ⟨ky, hky, hcl⟩ := few_client (w0 := w0)
 have HKY := Lib.hid hky
 have HCL := Lib.hid hcl
 clear hn hd hz hky hcl
 go_enter Tryz.func6, Tryz.ntmps6
 go_wp2_with fail
 refine (lshown_c G H).mono ?_; rintro e w' ⟨rfl, H⟩
 go_wp2_with fail
 refine (nnew_c H (addr := 1) (by omega) 3 9 1).mono ?_; rintro e w' ⟨p, mb, rfl, H⟩
 go_wp2_with fail
 refine (HKY.out _ _ H).mono ?_; rintro e w' ⟨rfl, H⟩
 go_wp2_with fail
 refine (HCL.out _ _ _ _ H).mono ?_; rintro e w' ⟨rfl, H⟩
 obtain ⟨a1, ha1⟩ : ∃ a, a = a0 % 128 := ⟨_, rfl⟩
 obtain ⟨b1, hb1⟩ : ∃ b, b = b0 % 128 := ⟨_, rfl⟩
 have e3 : bits BinOp.and IntKind.u8 (a0 : Int) 127 = (a1 : Int) := by rw [ha1]; exact and_127 ha0
 have e4 : bits BinOp.and IntKind.u8 (b0 : Int) 127 = (b1 : Int) := by rw [hb1]; exact and_127 hb0
 have e5 : IntKind.i8.wrap (a1 : Int) = (a1 : Int) := wrap_i8 (by omega)
 have e6 : IntKind.i8.wrap (b1 : Int) = (b1 : Int) := wrap_i8 (by omega)
 have HAB := Lib.hid (show a1 < 128 ∧ b1 < 128 by omega)
 have HX := Lib.hid hnx
 clear ha1 hb1 ha0 hb0 hnx hd0
 go_wp2_with fail
 refine (lbuilt_c H (oG_ok (old := 0) (early := a1) (late := b1) (delay := d) (next := nx) (by omega) (by have := HAB.out; omega) (by have := HAB.out; omega) (by have := HD.out; omega) HX.out) (now := n) (by have := HN.out; omega)).mono ?_; rintro e w' ⟨v, rfl, H⟩
 replace H := H.pull 1 rfl
 obtain ⟨ht, x, hx1, hx2, hx3⟩ := times_take (n := n) (d := d) (nx := nx) (a := a1) (b := b1) HN.out (by have := HAB.out; omega) (by have := HAB.out; omega) HD.out HX.out
 have hok := NodeD.take_ok nodeF_ok ((oG 0 a1 b1 d nx).built n) n
 go_wp2_with fail
 refine (nTake_c G H nodeF_ok (by omega) (by omega) (see_byt 1 rfl _ H) (now := n) (by have := HN.out; omega)).mono ?_; rintro e w' ⟨rfl, H3⟩
 rw [ht]
 clear H
 obtain ⟨S1, hS1⟩ : ∃ S, S = nodeF.take ((oG 0 a1 b1 d nx).built n) n := ⟨_, rfl⟩
 rw [← hS1] at hok hx3 H3
 have H : At w0 (nodeo p mb S1 :: F) w' := H3.maskR [true, false]
 have HOK := Lib.hid hok
 have HHP := Lib.hid hx3
 have HXL := Lib.hid hx1
 have HXN := Lib.hid hx2
 have hn200 : IntKind.u64.wrap ((n : Int) + 200) = ((n + 200 : Nat) : Int) := by have := HN.out; rw [IntKind.wrap_u64]; omega
 have hnd : IntKind.u64.wrap ((n : Int) + (d : Int)) = ((n + d : Nat) : Int) := by have := HN.out; have := HD.out; rw [IntKind.wrap_u64]; omega
 have hdw : IntKind.u64.wrap (d : Int) = (d : Int) := by have := HD.out; rw [IntKind.wrap_u64]; omega
 clear H3 hS1 hok hx3 hx1 hx2 ht
 go_wp2_with fail
 obtain ⟨m, hm⟩ : ∃ m, m = n + 200 := ⟨_, rfl⟩
 obtain ⟨a, ha⟩ : ∃ a, a = n + d := ⟨_, rfl⟩
 rw [← hm] at hn200
 rw [← ha] at hnd HHP
 have HM := Lib.hid hm
 have HA := Lib.hid ha
 clear hm ha
 go_loopw [15] (fun i wr => ∃ (t : Nat) (S : NodeD), n ≤ t ∧ t ≤ m + 1 ∧ i = .int .u64 t ∧ S.ok 1 (1 + 64 * (t - n)) ∧ S.hp = oneWaits a x t ∧ At w0 (nodeo p mb S :: F) wr) (fun i _ => m + 1 - (intOf i).toNat)
 case atStart => exact ⟨n, S1, Nat.le_refl _, by have := HM.out; omega, rfl, HOK.out.mono (by omega) (by omega), HHP.out, H⟩
 case round =>
  clear H
  obtain ⟨t, S, ht1, ht2, rfl, hok, hhp, H⟩ := hrel
  by_cases g1 : t ≤ m
  · have b1 : (t : Int) ≤ (m : Int) := by omega
    obtain ⟨T, hT⟩ : ∃ T, T = S.tick t := ⟨_, rfl⟩
    obtain ⟨O, hO⟩ : ∃ O, O = S.tickO t := ⟨_, rfl⟩
    obtain ⟨k1, k2⟩ := ticks_one (t := t) HXL.out hhp
    have k3 := NodeD.tick_ok hok t
    have HT := Lib.hid (ntick_c H hok (by have := HM.out; omega) (now := t) (by have := HM.out; have := HN.out; omega))
    rw [← hT] at k1 k3 HT
    rw [← hO, HXN.out] at k2
    rw [← hO] at HT
    have K1 := Lib.hid k1
    have K2 := Lib.hid k2
    have K3 := Lib.hid k3
    have e9 : IntKind.u64.wrap ((t : Int) + 1) = ((t + 1 : Nat) : Int) := by have := HM.out; have := HN.out; rw [IntKind.wrap_u64]; omega
    have HG := Lib.hid (show n ≤ t ∧ t ≤ m from ⟨ht1, g1⟩)
    clear hok hhp k1 k2 k3 hT hO ht1 ht2 g1
    go_wp2_with fail
    refine HT.out.mono ?_; rintro e w' ⟨v2, rfl, H⟩
    by_cases h2 : t = a
    · obtain ⟨D, o, q, a9, m9, rfl, hcn, hcb⟩ := out_one (K2.out.trans (if_pos h2)) H
      replace hcb : w'.cell? ⟨D, o + 1, none⟩ = some (.slice a9 614 m9) := by rw [packOf_length x.2.p] at hcb; exact hcb
      have b2 : ((t : Int) == (a : Int)) = true := by simp; omega
      replace H : At w0 (nodeo p mb T :: F) w' := H.tail
      clear h2
      go_wp2_with fail
      first
       | (refine ⟨?_, ?measure⟩; iterate 220 (try apply Exists.intro); refine ⟨?rel, rfl⟩)
       | refine ⟨?rel, ?measure⟩
      case rel => exact ⟨t + 1, T, by have := HG.out; omega, by have := HG.out; omega, by go_num, K3.out.mono (Nat.le_refl _) (by have := HG.out; omega), K1.out, H⟩
      case measure => have := HG.out; simp [intOf]; omega
    · have h3 := K2.out.trans (if_neg h2)
      obtain ⟨a9, q9, rfl⟩ := out_slice H
      rw [h3]
      have b2 : ((t : Int) == (a : Int)) = false := by simp; omega
      replace H : At w0 (nodeo p mb T :: F) w' := H.tail
      clear h2 h3
      go_wp2_with fail
      first
       | (refine ⟨?_, ?measure⟩; iterate 220 (try apply Exists.intro); refine ⟨?rel, rfl⟩)
       | refine ⟨?rel, ?measure⟩
      case rel => exact ⟨t + 1, T, by have := HG.out; omega, by have := HG.out; omega, by go_num, K3.out.mono (Nat.le_refl _) (by have := HG.out; omega), K1.out, H⟩
      case measure => have := HG.out; simp [intOf]; omega
  · have b1 : ¬ ((t : Int) ≤ (m : Int)) := by omega
    have hz : S.hp.length = 0 := by
     rw [hhp]
     unfold oneWaits
     rw [if_neg (by have := HM.out; have := HA.out; have := HD.out; omega)]
     rfl
    clear hok hhp ht1 ht2 g1
    go_wp2_with fail
    refine (nlen_c H).mono ?_; rintro e w' ⟨rfl, rfl⟩
    rw [hz]
    go_wp2_with fail
    go_ret
    exact ⟨rfl, H.tail⟩
theorem u32_nat {a : Int} (h : (Lit.int .u32 a).wf = true) : ∃ n : Nat, n < 4294967296 ∧ a = (n : Int) := by
 have e1 : IntKind.u32.min = 0 := rfl
 have e2 : IntKind.u32.max = 4294967295 := rfl
 simp [Lit.wf, e1, e2] at h
 exact ⟨a.toNat, by omega, by omega⟩
theorem u16_nat {a : Int} (h : (Lit.int .u16 a).wf = true) : ∃ n : Nat, n < 65536 ∧ a = (n : Int) := by
 have e1 : IntKind.u16.min = 0 := rfl
 have e2 : IntKind.u16.max = 65535 := rfl
 simp [Lit.wf, e1, e2] at h
 exact ⟨a.toNat, by omega, by omega⟩
theorem u8_nat {a : Int} (h : (Lit.int .u8 a).wf = true) : ∃ n : Nat, n < 256 ∧ a = (n : Int) := by
 have e1 : IntKind.u8.min = 0 := rfl
 have e2 : IntKind.u8.max = 255 := rfl
 simp [Lit.wf, e1, e2] at h
 exact ⟨a.toNat, by omega, by omega⟩
theorem nodeTimes_walk {W : World} {a b c d e : Int} (G : Glob W) (ha : (Lit.int .u64 a).wf = true) (hb : (Lit.int .u32 b).wf = true) (hc : (Lit.int .u8 c).wf = true) (hd : (Lit.int .u8 d).wf = true) (he : (Lit.int .u16 e).wf = true) :
    Calls Tryz.prog 6 #[.int .u64 a, .int .u32 b, .int .u8 c, .int .u8 d, .int .u16 e] W fun e w' => e = .returned (.bool true) ∧ Below W.heap.size W w' := by
 obtain ⟨z, hz, rfl⟩ := u64_nat ha
 obtain ⟨x, hx, rfl⟩ := u32_nat hb
 obtain ⟨y, hy, rfl⟩ := u8_nat hc
 obtain ⟨u, hu, rfl⟩ := u8_nat hd
 obtain ⟨v, hv, rfl⟩ := u16_nat he
 exact (nodeTimes_c G (At.start W) hz hx hy hu hv).mono fun _ _ h => ⟨h.1, h.2.below⟩
theorem nodeTimes_own : ownKnob Tryz.prog.godebug = none := by kernel_rfl
theorem nodeTimes_laidout : laidOutB Tryz.prog = true := by kernel_rfl
set_option maxRecDepth 100000 in
theorem nodeTimes_contract (H : Type) (enc : TypeId × Value → H) (W : World) (base : Nat) (args : Array Value) (ds gs : List (DataW H)) (before : List MemPlace)
    (hval : ∀ (j : Nat) t v, Tryz.f6.params[j]? = some t → args[j]? = some v → Value.okWide Tryz.prog W .any base t v)
    (hW : DataW.Whole enc Tryz.prog Tryz.f6.params.toList Rows.nodeTimesSpec.vars false W args.toList ds gs before) (hL : laidMetH Tryz.prog Rows.nodeTimesRow.laid W) :
    Calls Tryz.prog 6 args W fun e W' => ∃ v, e = .returned v ∧ Rows.nodeTimesSpec.post enc Tryz.prog Tryz.f6 false true false false W args v W' := by
 have G : Glob W := glob_of_laid hL
 have hW' := hW
 obtain ⟨p, q, hA0, hV, rfl, hfz, hnd⟩ := hW
 have hA : DataW.TrodAll enc Tryz.prog W 0 (fun _ => true) true Tryz.f6.params.toList args.toList ds p := hA0
 rw [Tryz.params6] at hA hval
 obtain ⟨v0, vs0, d0, ds0, p0, q0, hargs, rfl, rfl, h0, r0⟩ := trodAll_cons hA
 obtain ⟨v1, vs1, d1, ds1, p1, q1, rfl, rfl, rfl, h1, r1⟩ := trodAll_cons r0
 obtain ⟨v2, vs2, d2, ds2, p2, q2, rfl, rfl, rfl, h2, r2⟩ := trodAll_cons r1
 obtain ⟨v3, vs3, d3, ds3, p3, q3, rfl, rfl, rfl, h3, r3⟩ := trodAll_cons r2
 obtain ⟨v4, vs4, d4, ds4, p4, q4, rfl, rfl, rfl, h4, r4⟩ := trodAll_cons r3
 obtain ⟨rfl, rfl, rfl⟩ := trodAll_nil r4
 obtain rfl : args = #[v0, v1, v2, v3, v4] := by cases args; simp_all
 obtain ⟨rfl, rfl⟩ := trodVars_none hV
 have k0 := h0
 have lt0 : ∀ x ∈ p0, x.block < W.heap.size := by obtain ⟨m, hm⟩ := k0; exact DataW.trod_lt m _ _ _ hm
 have k1 := h1
 have lt1 : ∀ x ∈ p1, x.block < W.heap.size := by obtain ⟨m, hm⟩ := k1; exact DataW.trod_lt m _ _ _ hm
 have k2 := h2
 have lt2 : ∀ x ∈ p2, x.block < W.heap.size := by obtain ⟨m, hm⟩ := k2; exact DataW.trod_lt m _ _ _ hm
 have k3 := h3
 have lt3 : ∀ x ∈ p3, x.block < W.heap.size := by obtain ⟨m, hm⟩ := k3; exact DataW.trod_lt m _ _ _ hm
 have k4 := h4
 have lt4 : ∀ x ∈ p4, x.block < W.heap.size := by obtain ⟨m, hm⟩ := k4; exact DataW.trod_lt m _ _ _ hm
 obtain ⟨a0, rfl, rfl, rfl, f0⟩ := open_int Tryz.underlying22 (hval 0 22 v0 rfl rfl) h0
 obtain ⟨a1, rfl, rfl, rfl, f1⟩ := open_int Tryz.underlying36 (hval 1 36 v1 rfl rfl) h1
 obtain ⟨a2, rfl, rfl, rfl, f2⟩ := open_int Tryz.underlying5 (hval 2 5 v2 rfl rfl) h2
 obtain ⟨a3, rfl, rfl, rfl, f3⟩ := open_int Tryz.underlying5 (hval 3 5 v3 rfl rfl) h3
 obtain ⟨a4, rfl, rfl, rfl, f4⟩ := open_int Tryz.underlying27 (hval 4 27 v4 rfl rfl) h4
 clear hA0
 refine (nodeTimes_walk G f0 f1 f2 f3 f4).mono fun e W' ⟨he, bel⟩ => ?_
 subst he
 exact ⟨_, rfl, _, _, _, [], _, [], hW', trodAll_mk1 (shut_bool Tryz.underlying4 _), (trodAll_cons_mk (Below.trod nodeTimes_laidout (by kernel_rfl) (of_decide_eq_true (by kernel_rfl)) k0 bel lt0) (trodAll_cons_mk (Below.trod nodeTimes_laidout (by kernel_rfl) (of_decide_eq_true (by kernel_rfl)) k1 bel lt1) (trodAll_cons_mk (Below.trod nodeTimes_laidout (by kernel_rfl) (of_decide_eq_true (by kernel_rfl)) k2 bel lt2) (trodAll_cons_mk (Below.trod nodeTimes_laidout (by kernel_rfl) (of_decide_eq_true (by kernel_rfl)) k3 bel lt3) (trodAll_cons_mk (Below.trod nodeTimes_laidout (by kernel_rfl) (of_decide_eq_true (by kernel_rfl)) k4 bel lt4) trodAll_mk0))))), rfl, bel.frame _, fun h => by cases h⟩
noncomputable def nodeTimes_wit : Array Value := #[.int .u64 0, .int .u32 0, .int .u8 0, .int .u8 0, .int .u16 0]
theorem nodeTimes_met (os : Os) : laidMet Tryz.prog Rows.nodeTimesRow.laid ((laidWorld os).forCall (fun _ _ => 0) ⟨#[], nodeTimes_wit, []⟩).memory := laidMet_of_run' 8 (by kernel_rfl) (by kernel_rfl)
set_option maxRecDepth 100000 in
theorem nodeTimes_lifted (os : Os) (started : os.Started) (H : Type) (enc : TypeId × Value → H) (F : Stop.Interp) :
    ReturnsInHanded {} Tryz.checked os 6 .any ((OpenSpec.ofChange Rows.nodeTimesSpec).preRow enc Tryz.prog Tryz.f6 Rows.nodeTimesRow.domain false Rows.nodeTimesRow.laid) (((OpenSpec.ofChange Rows.nodeTimesSpec).at F).post enc Tryz.prog Tryz.f6 false true false false) := by
 obtain ⟨x, hx⟩ := Option.isSome_iff_exists.1 (show (DataW.whole enc Tryz.prog ((laidWorld os).forCall (fun _ _ => 0) ⟨#[], nodeTimes_wit, []⟩).memory Tryz.f6.params.toList Rows.nodeTimesSpec.vars false nodeTimes_wit.toList 8).isSome = true by kernel_rfl)
 refine returnsInHanded_of_row (C := Tryz.checked) (s := OpenSpec.ofChange Rows.nodeTimesSpec) nodeTimes_own started (by kernel_rfl) Tryz.func6
  (witness_row_at (enc := enc) (C := Tryz.checked) false (laidWorld os) nodeTimes_wit rfl (by kernel_rfl) (by kernel_rfl) (by kernel_rfl)
   (OpenSpec.preRow_of_cond 8 hx (by kernel_rfl) (fun k hk => by cases hk) (by kernel_rfl) (nodeTimes_met os))) ?_
 intro W base args ds gs before hval hW _ _ _ hL _ _
 exact nodeTimes_contract H enc W base args ds gs before hval hW hL
theorem nodeTimes_said : Rows.NodeTimesSaid :=
 OpenClaim.holds_of_cond 6 Tryz.f6 rfl rfl rfl rfl rfl rfl rfl ⟨rfl, rfl, rfl, rfl, rfl⟩ rfl rfl rfl rfl rfl (by kernel_rfl) Tryz.func6 (by kernel_rfl)
  (of_decide_eq_true (by kernel_rfl)) (by unfold Func.isWrapper; first | (rw [if_pos (by decide +kernel)]; kernel_rfl) | (rw [if_neg (by decide +kernel)]; exact ⟨rfl, rfl⟩))
  (fun os started H enc _ F => by rw [OpenClaim.pre_eq_preRow]; exact nodeTimes_lifted os started H enc F)
theorem nodeTimes_plain (f : FuncId) (fn : Func) (hf : Tryz.pinned.checked.prog.funcNamed "hourglass/hourglasslaw17.NodeTimes" = some f) (hfn : Tryz.pinned.checked.prog.funcs[f]? = some fn) :
    false = Tryz.pinned.checked.prog.looks [] ∧ ∀ (j : Nat) t, fn.params[j]? = some t → Tryz.pinned.checked.prog.wantsStandIn t = false := by
 obtain rfl : f = 6 := Option.some.inj ((show Tryz.prog.funcNamed "hourglass/hourglasslaw17.NodeTimes" = some 6 by kernel_rfl).symm.trans hf) |>.symm
 obtain rfl : fn = Tryz.f6 := (Option.some.inj (Tryz.func6.symm.trans hfn)).symm
 refine ⟨by kernel_rfl, fun j t ht => ?_⟩
 have hall : ∀ t ∈ Tryz.f6.params, Tryz.prog.wantsStandIn t = false := by
  have h : (Tryz.f6.params.toList.all fun t => !Tryz.prog.wantsStandIn t) = true := by kernel_rfl
  intro t ht
  simpa using List.all_eq_true.1 h t (Array.mem_toList_iff.2 ht)
 exact hall t (Array.mem_of_getElem? ht)
theorem nodeTimes_holds : Rows.NodeTimesCardSaid :=
 Claim7.holds_tied_plain_at .later [] _ _ _ _ nodeTimes_said (fun _ h => by cases h) (by kernel_rfl) (fun _ h => by cases h) nodeTimes_row_tie rfl ⟨rfl, rfl⟩ (by kernel_rfl) rfl nodeTimes_plain (by kernel_rfl)
#print axioms nodeTimes_holds
end Go.Proofs.YtmflbekabkainaaGreatDoor
