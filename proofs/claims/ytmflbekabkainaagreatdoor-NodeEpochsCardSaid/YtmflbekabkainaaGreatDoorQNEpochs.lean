import Derived.Test.YtmflbekabkainaaGreatDoorQNFew
set_option linter.unusedVariables false
set_option linter.unusedSimpArgs false
namespace Go.Proofs.YtmflbekabkainaaGreatDoor
open Go.ChangeShapes Go.WideShapes Go.ChangeAt Go.RowKit Go.Hg
theorem epochs_ge {n k : Nat} (hn : 10000 ≤ n ∧ n < 1099511637776) (hk : k ≤ 5) : nodeF.takeE ((oG k 5 5 0 2).built n) n = if k ≤ 1 then 0 else 11 := by
 rw [nodeF_take (oG_ok (by omega) (by omega) (by omega) (by omega) (by omega)) (by omega)]
 have e1 : (oG k 5 5 0 2).epoch n = n / 1000 - k := by
  show (n / 1000 + 4294967296 - k) % 4294967296 = _
  omega
 have e2 : (oG k 5 5 0 2).lo n = n - 5 := by
  show nearN n (-5) = _
  unfold nearN
  rw [if_pos (by decide), show (-(-5 : Int)).toNat = 5 from rfl]
  omega
 have e3 : (oG k 5 5 0 2).hi n = n + 5 := by
  show nearN n 5 = _
  unfold nearN
  rw [if_neg (by decide), show (5 : Int).toNat = 5 from rfl]
  omega
 rw [e1, e2, e3]
 by_cases hk1 : k ≤ 1
 · rw [if_pos hk1, if_pos (by omega), if_neg (by omega), if_neg (by omega), if_neg (by omega)]
 · rw [if_neg hk1, if_neg (by omega)]
theorem epochs_lt {n j : Nat} (hn : 10000 ≤ n ∧ n < 1099511637776) (h1 : 1 ≤ j) (hj : j ≤ 5) : nodeF.takeE ((oG 0 5 5 0 2).built (n + j * 1000)) n = 11 := by
 rw [nodeF_take (oG_ok (by omega) (by omega) (by omega) (by omega) (by omega)) (by omega)]
 have e1 : (oG 0 5 5 0 2).epoch (n + j * 1000) = n / 1000 + j := by
  show ((n + j * 1000) / 1000 + 4294967296 - 0) % 4294967296 = _
  omega
 rw [e1, if_neg (by omega)]
set_option maxRecDepth 20000 in
set_option maxHeartbeats 4000000 in
theorem nodeEpochs_c {w0 w : World} {F : List SP} (G : Glob w0) (H : At w0 F w) {z : Nat} {y : Int} (hz : z < 18446744073709551616) (hy : -128 ≤ y ∧ y ≤ 127) :
    Calls Tryz.prog 7 #[.int .u64 (z : Int), .int .i8 y] w fun e w' => e = .returned (.bool true) ∧ At w0 F w' := by
 obtain ⟨z0, hz0⟩ : ∃ z0, z0 = z % 1099511627776 := ⟨_, rfl⟩
 have e1 : bits BinOp.and IntKind.u64 (z : Int) 1099511627775 = (z0 : Int) := by rw [hz0]; exact and_40 z
 obtain ⟨n, hn⟩ : ∃ n, n = 10000 + z0 := ⟨_, rfl⟩
 have e2 : IntKind.u64.wrap (10000 + (z0 : Int)) = (n : Int) := by rw [IntKind.wrap_u64]; omega
 have HN := Lib.hid (show 10000 ≤ n ∧ n < 1099511637776 by omega)
 obtain ⟨ky, hky, hcl⟩ := few_client (w0 := w0)
 have HKY := Lib.hid hky
 have HCL := Lib.hid hcl
 clear hz0 hn hz hky hcl
 go_enter Tryz.func7, Tryz.ntmps7
 go_wp2_with fail
 refine (lshown_c G H).mono ?_; rintro e w' ⟨rfl, H⟩
 go_wp2_with fail
 refine (nnew_c H (addr := 1) (by omega) 3 9 1).mono ?_; rintro e w' ⟨p, mb, rfl, H⟩
 go_wp2_with fail
 refine (HKY.out _ _ H).mono ?_; rintro e w' ⟨rfl, H⟩
 go_wp2_with fail
 refine (HCL.out _ _ _ _ H).mono ?_; rintro e w' ⟨rfl, H⟩
 obtain ⟨r, hr⟩ : ∃ r, r = y.tmod 6 := ⟨_, rfl⟩
 have e3 : y.tmod 6 = r := hr.symm
 have HR := Lib.hid (show -5 ≤ r ∧ r ≤ 5 by have h1 := Int.lt_tmod_of_pos y (show (0 : Int) < 6 by omega); have h2 := Int.tmod_lt_of_pos y (show (0 : Int) < 6 by omega); omega)
 have e4 : r % 256 = ((r % 256).toNat : Int) := by omega
 have HO := Lib.hid (show (r % 256).toNat < 256 by omega)
 obtain ⟨o, ho⟩ : ∃ o, o = (r % 256).toNat := ⟨_, rfl⟩
 rw [← ho] at e4 HO
 have HRO := Lib.hid ho
 clear hr ho hy
 go_wp2_with fail
 refine (lbuilt_c H (oG_ok (old := o) (early := 5) (late := 5) (delay := 0) (next := 2) HO.out (by omega) (by omega) (by omega) (by omega)) (now := n) (by have := HN.out; omega)).mono ?_; rintro e w' ⟨v, rfl, H⟩
 replace H := H.pull 1 rfl
 have hsee := Lib.hid (see_byt (u8 := 5) (v := v) 1 rfl _ H)
 by_cases hneg : r < 0
 · obtain ⟨j, hj⟩ : ∃ j : Nat, r = -(j : Int) := ⟨(-r).toNat, by omega⟩
   have hj1 := HR.out
   have HJ := Lib.hid (show 1 ≤ j ∧ j ≤ 5 by omega)
   have hw := fun (x : Int) (h1 : -10 ≤ x) (h2 : x ≤ 10) => (show RowKit.wrap64 x = x by unfold RowKit.wrap64; omega)
   have f0 : RowKit.wrap64 r = r := hw r (by omega) (by omega)
   have f1 : RowKit.wrap64 (-r) = (j : Int) := by rw [show -r = (j : Int) by omega]; exact hw _ (by omega) (by omega)
   have f1b : IntKind.u64.wrap (j : Int) = (j : Int) := by rw [IntKind.wrap_u64]; omega
   obtain ⟨n2, hn2⟩ : ∃ n2, n2 = n + j * 1000 := ⟨_, rfl⟩
   obtain ⟨m2, hm2⟩ : ∃ m2, m2 = j * 1000 := ⟨_, rfl⟩
   have f2 : IntKind.u64.wrap ((j : Int) * 1000) = (m2 : Int) := by rw [IntKind.wrap_u64, hm2]; omega
   have f3 : IntKind.u64.wrap ((n : Int) + (m2 : Int)) = (n2 : Int) := by have := HN.out; rw [IntKind.wrap_u64]; omega
   have HN2 := Lib.hid hn2
   have b0 : decide (r < 0) = true := decide_eq_true hneg
   have b2 : (r == 0) = false := by simp; omega
   have b3 : (r == 1) = false := by simp; omega
   have ht := epochs_lt HN.out HJ.out.1 HJ.out.2
   rw [← hn2] at ht
   have HT := Lib.hid ht
   clear hn2 hm2 hj hj1 hw hneg ht
   go_wp2_with fail
   refine (lbuilt_c H (oG_ok (old := 0) (early := 5) (late := 5) (delay := 0) (next := 2) (by omega) (by omega) (by omega) (by omega) (by omega)) (now := n2) (by have := HN.out; have := HJ.out; have := HN2.out; omega)).mono ?_; rintro e w' ⟨v2, rfl, H⟩
   replace H := H.pull 1 rfl
   go_wp2_with fail
   refine (nTake_c G H nodeF_ok (by omega) (by omega) (see_byt 1 rfl _ H) (now := n) (by have := HN.out; omega)).mono ?_; rintro e w' ⟨rfl, H⟩
   rw [HT.out]
   replace H : At w0 F _ := H.maskR [false, false, false]
   go_wp2_with fail
   go_ret
   exact ⟨rfl, H⟩
 · obtain ⟨j, hj⟩ : ∃ j : Nat, r = (j : Int) := ⟨r.toNat, by omega⟩
   subst hj
   have h1 := HR.out
   have h2 := HRO.out
   obtain rfl : o = j := by omega
   have HJ := Lib.hid (show o ≤ 5 by omega)
   have b0 : ¬ ((o : Int) < 0) := by omega
   obtain ⟨E, hE⟩ : ∃ E : Nat, E = if o ≤ 1 then 0 else 11 := ⟨_, rfl⟩
   have ht := epochs_ge HN.out HJ.out
   rw [← hE] at ht
   have HT := Lib.hid ht
   have HE := Lib.hid hE
   clear h1 h2 ht hE hneg e3 e4
   go_wp2_with fail
   refine (nTake_c G H nodeF_ok (by omega) (by omega) hsee.out (now := n) (by have := HN.out; omega)).mono ?_; rintro e w' ⟨rfl, H3⟩
   rw [HT.out]
   clear H
   have H : At w0 F w' := H3.maskR [false, false]
   clear H3
   have hj := HJ.out
   by_cases h0 : o = 0
   · obtain rfl : E = 0 := by rw [HE.out, if_pos (by omega)]
     subst h0
     clear hj
     go_wp2_with fail
     go_ret
     exact ⟨rfl, H⟩
   · by_cases h1 : o = 1
     · obtain rfl : E = 0 := by rw [HE.out, if_pos (by omega)]
       subst h1
       clear hj h0
       go_wp2_with fail
       go_ret
       exact ⟨rfl, H⟩
     · obtain rfl : E = 11 := by rw [HE.out, if_neg (by omega)]
       have b2 : ((o : Int) == 0) = false := by simp; omega
       have b3 : ((o : Int) == 1) = false := by simp; omega
       clear hj h0 h1
       go_wp2_with fail
       go_ret
       exact ⟨rfl, H⟩
theorem nodeEpochs_walk {W : World} {a b : Int} (G : Glob W) (ha : (Lit.int .u64 a).wf = true) (hb : (Lit.int .i8 b).wf = true) :
    Calls Tryz.prog 7 #[.int .u64 a, .int .i8 b] W fun e w' => e = .returned (.bool true) ∧ Below W.heap.size W w' := by
 obtain ⟨z, hz, rfl⟩ := u64_nat ha
 exact (nodeEpochs_c G (At.start W) hz (i8_in hb)).mono fun _ _ h => ⟨h.1, h.2.below⟩
theorem nodeEpochs_own : ownKnob Tryz.prog.godebug = none := by kernel_rfl
theorem nodeEpochs_laidout : laidOutB Tryz.prog = true := by kernel_rfl
set_option maxRecDepth 100000 in
theorem nodeEpochs_contract (H : Type) (enc : TypeId × Value → H) (W : World) (base : Nat) (args : Array Value) (ds gs : List (DataW H)) (before : List MemPlace)
    (hval : ∀ (j : Nat) t v, Tryz.f7.params[j]? = some t → args[j]? = some v → Value.okWide Tryz.prog W .any base t v)
    (hW : DataW.Whole enc Tryz.prog Tryz.f7.params.toList Rows.nodeEpochsSpec.vars false W args.toList ds gs before) (hL : laidMetH Tryz.prog Rows.nodeEpochsRow.laid W) :
    Calls Tryz.prog 7 args W fun e W' => ∃ v, e = .returned v ∧ Rows.nodeEpochsSpec.post enc Tryz.prog Tryz.f7 false true false false W args v W' := by
 have G : Glob W := glob_of_laid hL
 have hW' := hW
 obtain ⟨p, q, hA0, hV, rfl, hfz, hnd⟩ := hW
 have hA : DataW.TrodAll enc Tryz.prog W 0 (fun _ => true) true Tryz.f7.params.toList args.toList ds p := hA0
 rw [Tryz.params7] at hA hval
 obtain ⟨v0, vs0, d0, ds0, p0, q0, hargs, rfl, rfl, h0, r0⟩ := trodAll_cons hA
 obtain ⟨v1, vs1, d1, ds1, p1, q1, rfl, rfl, rfl, h1, r1⟩ := trodAll_cons r0
 obtain ⟨rfl, rfl, rfl⟩ := trodAll_nil r1
 obtain rfl : args = #[v0, v1] := by cases args; simp_all
 obtain ⟨rfl, rfl⟩ := trodVars_none hV
 have k0 := h0
 have lt0 : ∀ x ∈ p0, x.block < W.heap.size := by obtain ⟨m, hm⟩ := k0; exact DataW.trod_lt m _ _ _ hm
 have k1 := h1
 have lt1 : ∀ x ∈ p1, x.block < W.heap.size := by obtain ⟨m, hm⟩ := k1; exact DataW.trod_lt m _ _ _ hm
 obtain ⟨a0, rfl, rfl, rfl, f0⟩ := open_int Tryz.underlying22 (hval 0 22 v0 rfl rfl) h0
 obtain ⟨a1, rfl, rfl, rfl, f1⟩ := open_int Tryz.underlying35 (hval 1 35 v1 rfl rfl) h1
 clear hA0
 refine (nodeEpochs_walk G f0 f1).mono fun e W' ⟨he, bel⟩ => ?_
 subst he
 exact ⟨_, rfl, _, _, _, [], _, [], hW', trodAll_mk1 (shut_bool Tryz.underlying4 _), (trodAll_cons_mk (Below.trod nodeEpochs_laidout (by kernel_rfl) (of_decide_eq_true (by kernel_rfl)) k0 bel lt0) (trodAll_cons_mk (Below.trod nodeEpochs_laidout (by kernel_rfl) (of_decide_eq_true (by kernel_rfl)) k1 bel lt1) trodAll_mk0)), rfl, bel.frame _, fun h => by cases h⟩
noncomputable def nodeEpochs_wit : Array Value := #[.int .u64 0, .int .i8 0]
theorem nodeEpochs_met (os : Os) : laidMet Tryz.prog Rows.nodeEpochsRow.laid ((laidWorld os).forCall (fun _ _ => 0) ⟨#[], nodeEpochs_wit, []⟩).memory := laidMet_of_run' 8 (by kernel_rfl) (by kernel_rfl)
set_option maxRecDepth 100000 in
theorem nodeEpochs_lifted (os : Os) (started : os.Started) (H : Type) (enc : TypeId × Value → H) (F : Stop.Interp) :
    ReturnsInHanded {} Tryz.checked os 7 .any ((OpenSpec.ofChange Rows.nodeEpochsSpec).preRow enc Tryz.prog Tryz.f7 Rows.nodeEpochsRow.domain false Rows.nodeEpochsRow.laid) (((OpenSpec.ofChange Rows.nodeEpochsSpec).at F).post enc Tryz.prog Tryz.f7 false true false false) := by
 obtain ⟨x, hx⟩ := Option.isSome_iff_exists.1 (show (DataW.whole enc Tryz.prog ((laidWorld os).forCall (fun _ _ => 0) ⟨#[], nodeEpochs_wit, []⟩).memory Tryz.f7.params.toList Rows.nodeEpochsSpec.vars false nodeEpochs_wit.toList 8).isSome = true by kernel_rfl)
 refine returnsInHanded_of_row (C := Tryz.checked) (s := OpenSpec.ofChange Rows.nodeEpochsSpec) nodeEpochs_own started (by kernel_rfl) Tryz.func7
  (witness_row_at (enc := enc) (C := Tryz.checked) false (laidWorld os) nodeEpochs_wit rfl (by kernel_rfl) (by kernel_rfl) (by kernel_rfl)
   (OpenSpec.preRow_of_cond 8 hx (by kernel_rfl) (fun k hk => by cases hk) (by kernel_rfl) (nodeEpochs_met os))) ?_
 intro W base args ds gs before hval hW _ _ _ hL _ _
 exact nodeEpochs_contract H enc W base args ds gs before hval hW hL
theorem nodeEpochs_said : Rows.NodeEpochsSaid :=
 OpenClaim.holds_of_cond 7 Tryz.f7 rfl rfl rfl rfl rfl rfl rfl ⟨rfl, rfl, rfl, rfl, rfl⟩ rfl rfl rfl rfl rfl (by kernel_rfl) Tryz.func7 (by kernel_rfl)
  (of_decide_eq_true (by kernel_rfl)) (by unfold Func.isWrapper; first | (rw [if_pos (by decide +kernel)]; kernel_rfl) | (rw [if_neg (by decide +kernel)]; exact ⟨rfl, rfl⟩))
  (fun os started H enc _ F => by rw [OpenClaim.pre_eq_preRow]; exact nodeEpochs_lifted os started H enc F)
theorem nodeEpochs_plain (f : FuncId) (fn : Func) (hf : Tryz.pinned.checked.prog.funcNamed "hourglass/hourglasslaw17.NodeEpochs" = some f) (hfn : Tryz.pinned.checked.prog.funcs[f]? = some fn) :
    false = Tryz.pinned.checked.prog.looks [] ∧ ∀ (j : Nat) t, fn.params[j]? = some t → Tryz.pinned.checked.prog.wantsStandIn t = false := by
 obtain rfl : f = 7 := Option.some.inj ((show Tryz.prog.funcNamed "hourglass/hourglasslaw17.NodeEpochs" = some 7 by kernel_rfl).symm.trans hf) |>.symm
 obtain rfl : fn = Tryz.f7 := (Option.some.inj (Tryz.func7.symm.trans hfn)).symm
 refine ⟨by kernel_rfl, fun j t ht => ?_⟩
 have hall : ∀ t ∈ Tryz.f7.params, Tryz.prog.wantsStandIn t = false := by
  have h : (Tryz.f7.params.toList.all fun t => !Tryz.prog.wantsStandIn t) = true := by kernel_rfl
  intro t ht
  simpa using List.all_eq_true.1 h t (Array.mem_toList_iff.2 ht)
 exact hall t (Array.mem_of_getElem? ht)
theorem nodeEpochs_holds : Rows.NodeEpochsCardSaid :=
 Claim7.holds_tied_plain_at .later [] _ _ _ _ nodeEpochs_said (fun _ h => by cases h) (by kernel_rfl) (fun _ h => by cases h) nodeEpochs_row_tie rfl ⟨rfl, rfl⟩ (by kernel_rfl) rfl nodeEpochs_plain (by kernel_rfl)
#print axioms nodeEpochs_holds
end Go.Proofs.YtmflbekabkainaaGreatDoor
