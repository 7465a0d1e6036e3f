import Derived.Test.YtmflbekabkainaaGreatDoorQNFew
set_option linter.unusedVariables false
set_option linter.unusedSimpArgs false
namespace Go.Proofs.YtmflbekabkainaaGreatDoor
open Go.ChangeShapes Go.WideShapes Go.ChangeAt Go.RowKit Go.Hg
theorem windows_take {n : Nat} {a b : Int} (hn : 1000 ≤ n ∧ n < 1099511628776) (ha : -100 < a ∧ a < 100) (hb : -100 < b ∧ b < 100) : nodeF.takeE ((oG 0 a b 0 2).built n) n = if 0 < min (-a) b then 5 else if max (-a) b < 0 then 6 else 0 := by
 rw [nodeF_take (oG_ok (by omega) (by omega) (by omega) (by omega) (by omega)) (by omega)]
 have e1 : (oG 0 a b 0 2).epoch n = n / 1000 := by
  show (n / 1000 + 4294967296 - 0) % 4294967296 = _
  omega
 have e2 : ((oG 0 a b 0 2).lo n : Int) = n - a := by
  show ((nearN n (-(max a (-127))) : Nat) : Int) = _
  unfold nearN
  split <;> omega
 have e3 : ((oG 0 a b 0 2).hi n : Int) = n + b := by
  show ((nearN n b : Nat) : Int) = _
  unfold nearN
  split <;> omega
 rw [e1, if_pos (by omega)]
 generalize (oG 0 a b 0 2).lo n = l at *
 generalize (oG 0 a b 0 2).hi n = h at *
 by_cases h1 : 0 < min (-a) b
 · rw [if_pos h1, if_pos (by omega)]
 · rw [if_neg h1, if_neg (by omega)]
   by_cases h2 : max (-a) b < 0
   · rw [if_pos h2, if_pos (by omega)]
   · rw [if_neg h2, if_neg (by omega), if_neg (by omega)]
set_option maxRecDepth 20000 in
set_option maxHeartbeats 4000000 in
theorem nodeWindows_c {w0 w : World} {F : List SP} (G : Glob w0) (H : At w0 F w) {z : Nat} {y x : Int} (hz : z < 18446744073709551616) (hy : -128 ≤ y ∧ y ≤ 127) (hx : -128 ≤ x ∧ x ≤ 127) :
    Calls Tryz.prog 8 #[.int .u64 (z : Int), .int .i8 y, .int .i8 x] w fun e w' => e = .returned (.bool true) ∧ At w0 F w' := by
 obtain ⟨z0, hz0⟩ : ∃ z0, z0 = z % 1099511627776 := ⟨_, rfl⟩
 have e1 : bits BinOp.and IntKind.u64 (z : Int) 1099511627775 = (z0 : Int) := by rw [hz0]; exact and_40 z
 obtain ⟨n, hn⟩ : ∃ n, n = 1000 + z0 := ⟨_, rfl⟩
 have e2 : IntKind.u64.wrap (1000 + (z0 : Int)) = (n : Int) := by rw [IntKind.wrap_u64]; omega
 have HN := Lib.hid (show 1000 ≤ n ∧ n < 1099511628776 by omega)
 obtain ⟨ky, hky, hcl⟩ := few_client (w0 := w0)
 have HKY := Lib.hid hky
 have HCL := Lib.hid hcl
 clear hz0 hn hz hky hcl
 go_enter Tryz.func8, Tryz.ntmps8
 go_wp2_with fail
 refine (lshown_c G H).mono ?_; rintro e w' ⟨rfl, H⟩
 go_wp2_with fail
 refine (nnew_c H (addr := 1) (by omega) 3 9 1).mono ?_; rintro e w' ⟨p, mb, rfl, H⟩
 go_wp2_with fail
 refine (HKY.out _ _ H).mono ?_; rintro e w' ⟨rfl, H⟩
 go_wp2_with fail
 refine (HCL.out _ _ _ _ H).mono ?_; rintro e w' ⟨rfl, H⟩
 obtain ⟨r, hr⟩ : ∃ r, r = y.tmod 100 := ⟨_, rfl⟩
 have e3 : y.tmod 100 = r := hr.symm
 obtain ⟨q, hq⟩ : ∃ q, q = x.tmod 100 := ⟨_, rfl⟩
 have e4 : x.tmod 100 = q := hq.symm
 have HR := Lib.hid (show -100 < r ∧ r < 100 by have h1 := Int.lt_tmod_of_pos y (show (0 : Int) < 100 by omega); have h2 := Int.tmod_lt_of_pos y (show (0 : Int) < 100 by omega); omega)
 have HQ := Lib.hid (show -100 < q ∧ q < 100 by have h1 := Int.lt_tmod_of_pos x (show (0 : Int) < 100 by omega); have h2 := Int.tmod_lt_of_pos x (show (0 : Int) < 100 by omega); omega)
 clear hr hq hy hx
 go_wp2_with fail
 refine (lbuilt_c H (oG_ok (old := 0) (early := r) (late := q) (delay := 0) (next := 2) (by omega) (by have := HR.out; omega) (by have := HQ.out; omega) (by omega) (by omega)) (now := n) (by have := HN.out; omega)).mono ?_; rintro e w' ⟨v, rfl, H⟩
 replace H := H.pull 1 rfl
 go_wp2_with fail
 refine (nTake_c G H nodeF_ok (by omega) (by omega) (see_byt 1 rfl _ H) (now := n) (by have := HN.out; omega)).mono ?_; rintro e w' ⟨rfl, H3⟩
 rw [windows_take HN.out HR.out HQ.out]
 clear H
 have H : At w0 F w' := H3.maskR [false, false]
 clear H3
 obtain ⟨E, hE⟩ : ∃ E : Nat, E = if 0 < min (-r) q then 5 else if max (-r) q < 0 then 6 else 0 := ⟨_, rfl⟩
 rw [← hE]
 obtain ⟨m, hm⟩ : ∃ m, m = -r := ⟨_, rfl⟩
 have hw := fun (x : Int) (h1 : -100 < x) (h2 : x < 100) => (show RowKit.wrap64 x = x by unfold RowKit.wrap64; omega)
 have f0 : RowKit.wrap64 r = r := hw r HR.out.1 HR.out.2
 have f1 : RowKit.wrap64 (-r) = m := by rw [← hm]; exact hw _ (by have := HR.out; omega) (by have := HR.out; omega)
 have f2 : RowKit.wrap64 q = q := hw q HQ.out.1 HQ.out.2
 rw [← hm] at hE
 have HE := Lib.hid hE
 clear hE hm hw e3 e4
 by_cases h1 : q < m
 · by_cases h2 : 0 < q
   · obtain rfl : E = 5 := by rw [HE.out, if_pos (by omega)]
     go_wp2_with fail
     go_ret
     exact ⟨rfl, H⟩
   · by_cases h3 : m < 0
     · obtain rfl : E = 6 := by rw [HE.out, if_neg (by omega), if_pos (by omega)]
       go_wp2_with fail
       go_ret
       exact ⟨rfl, H⟩
     · obtain rfl : E = 0 := by rw [HE.out, if_neg (by omega), if_neg (by omega)]
       go_wp2_with fail
       go_ret
       exact ⟨rfl, H⟩
 · by_cases h2 : 0 < m
   · obtain rfl : E = 5 := by rw [HE.out, if_pos (by omega)]
     go_wp2_with fail
     go_ret
     exact ⟨rfl, H⟩
   · by_cases h3 : q < 0
     · obtain rfl : E = 6 := by rw [HE.out, if_neg (by omega), if_pos (by omega)]
       go_wp2_with fail
       go_ret
       exact ⟨rfl, H⟩
     · obtain rfl : E = 0 := by rw [HE.out, if_neg (by omega), if_neg (by omega)]
       go_wp2_with fail
       go_ret
       exact ⟨rfl, H⟩
theorem nodeWindows_walk {W : World} {a b c : Int} (G : Glob W) (ha : (Lit.int .u64 a).wf = true) (hb : (Lit.int .i8 b).wf = true) (hc : (Lit.int .i8 c).wf = true) :
    Calls Tryz.prog 8 #[.int .u64 a, .int .i8 b, .int .i8 c] W fun e w' => e = .returned (.bool true) ∧ Below W.heap.size W w' := by
 obtain ⟨z, hz, rfl⟩ := u64_nat ha
 exact (nodeWindows_c G (At.start W) hz (i8_in hb) (i8_in hc)).mono fun _ _ h => ⟨h.1, h.2.below⟩
theorem nodeWindows_own : ownKnob Tryz.prog.godebug = none := by kernel_rfl
theorem nodeWindows_laidout : laidOutB Tryz.prog = true := by kernel_rfl
set_option maxRecDepth 100000 in
theorem nodeWindows_contract (H : Type) (enc : TypeId × Value → H) (W : World) (base : Nat) (args : Array Value) (ds gs : List (DataW H)) (before : List MemPlace)
    (hval : ∀ (j : Nat) t v, Tryz.f8.params[j]? = some t → args[j]? = some v → Value.okWide Tryz.prog W .any base t v)
    (hW : DataW.Whole enc Tryz.prog Tryz.f8.params.toList Rows.nodeWindowsSpec.vars false W args.toList ds gs before) (hL : laidMetH Tryz.prog Rows.nodeWindowsRow.laid W) :
    Calls Tryz.prog 8 args W fun e W' => ∃ v, e = .returned v ∧ Rows.nodeWindowsSpec.post enc Tryz.prog Tryz.f8 false true false false W args v W' := by
 have G : Glob W := glob_of_laid hL
 have hW' := hW
 obtain ⟨p, q, hA0, hV, rfl, hfz, hnd⟩ := hW
 have hA : DataW.TrodAll enc Tryz.prog W 0 (fun _ => true) true Tryz.f8.params.toList args.toList ds p := hA0
 rw [Tryz.params8] at hA hval
 obtain ⟨v0, vs0, d0, ds0, p0, q0, hargs, rfl, rfl, h0, r0⟩ := trodAll_cons hA
 obtain ⟨v1, vs1, d1, ds1, p1, q1, rfl, rfl, rfl, h1, r1⟩ := trodAll_cons r0
 obtain ⟨v2, vs2, d2, ds2, p2, q2, rfl, rfl, rfl, h2, r2⟩ := trodAll_cons r1
 obtain ⟨rfl, rfl, rfl⟩ := trodAll_nil r2
 obtain rfl : args = #[v0, v1, v2] := by cases args; simp_all
 obtain ⟨rfl, rfl⟩ := trodVars_none hV
 have k0 := h0
 have lt0 : ∀ x ∈ p0, x.block < W.heap.size := by obtain ⟨m, hm⟩ := k0; exact DataW.trod_lt m _ _ _ hm
 have k1 := h1
 have lt1 : ∀ x ∈ p1, x.block < W.heap.size := by obtain ⟨m, hm⟩ := k1; exact DataW.trod_lt m _ _ _ hm
 have k2 := h2
 have lt2 : ∀ x ∈ p2, x.block < W.heap.size := by obtain ⟨m, hm⟩ := k2; exact DataW.trod_lt m _ _ _ hm
 obtain ⟨a0, rfl, rfl, rfl, f0⟩ := open_int Tryz.underlying22 (hval 0 22 v0 rfl rfl) h0
 obtain ⟨a1, rfl, rfl, rfl, f1⟩ := open_int Tryz.underlying35 (hval 1 35 v1 rfl rfl) h1
 obtain ⟨a2, rfl, rfl, rfl, f2⟩ := open_int Tryz.underlying35 (hval 2 35 v2 rfl rfl) h2
 clear hA0
 refine (nodeWindows_walk G f0 f1 f2).mono fun e W' ⟨he, bel⟩ => ?_
 subst he
 exact ⟨_, rfl, _, _, _, [], _, [], hW', trodAll_mk1 (shut_bool Tryz.underlying4 _), (trodAll_cons_mk (Below.trod nodeWindows_laidout (by kernel_rfl) (of_decide_eq_true (by kernel_rfl)) k0 bel lt0) (trodAll_cons_mk (Below.trod nodeWindows_laidout (by kernel_rfl) (of_decide_eq_true (by kernel_rfl)) k1 bel lt1) (trodAll_cons_mk (Below.trod nodeWindows_laidout (by kernel_rfl) (of_decide_eq_true (by kernel_rfl)) k2 bel lt2) trodAll_mk0))), rfl, bel.frame _, fun h => by cases h⟩
noncomputable def nodeWindows_wit : Array Value := #[.int .u64 0, .int .i8 0, .int .i8 0]
theorem nodeWindows_met (os : Os) : laidMet Tryz.prog Rows.nodeWindowsRow.laid ((laidWorld os).forCall (fun _ _ => 0) ⟨#[], nodeWindows_wit, []⟩).memory := laidMet_of_run' 8 (by kernel_rfl) (by kernel_rfl)
set_option maxRecDepth 100000 in
theorem nodeWindows_lifted (os : Os) (started : os.Started) (H : Type) (enc : TypeId × Value → H) (F : Stop.Interp) :
    ReturnsInHanded {} Tryz.checked os 8 .any ((OpenSpec.ofChange Rows.nodeWindowsSpec).preRow enc Tryz.prog Tryz.f8 Rows.nodeWindowsRow.domain false Rows.nodeWindowsRow.laid) (((OpenSpec.ofChange Rows.nodeWindowsSpec).at F).post enc Tryz.prog Tryz.f8 false true false false) := by
 obtain ⟨x, hx⟩ := Option.isSome_iff_exists.1 (show (DataW.whole enc Tryz.prog ((laidWorld os).forCall (fun _ _ => 0) ⟨#[], nodeWindows_wit, []⟩).memory Tryz.f8.params.toList Rows.nodeWindowsSpec.vars false nodeWindows_wit.toList 8).isSome = true by kernel_rfl)
 refine returnsInHanded_of_row (C := Tryz.checked) (s := OpenSpec.ofChange Rows.nodeWindowsSpec) nodeWindows_own started (by kernel_rfl) Tryz.func8
  (witness_row_at (enc := enc) (C := Tryz.checked) false (laidWorld os) nodeWindows_wit rfl (by kernel_rfl) (by kernel_rfl) (by kernel_rfl)
   (OpenSpec.preRow_of_cond 8 hx (by kernel_rfl) (fun k hk => by cases hk) (by kernel_rfl) (nodeWindows_met os))) ?_
 intro W base args ds gs before hval hW _ _ _ hL _ _
 exact nodeWindows_contract H enc W base args ds gs before hval hW hL
theorem nodeWindows_said : Rows.NodeWindowsSaid :=
 OpenClaim.holds_of_cond 8 Tryz.f8 rfl rfl rfl rfl rfl rfl rfl ⟨rfl, rfl, rfl, rfl, rfl⟩ rfl rfl rfl rfl rfl (by kernel_rfl) Tryz.func8 (by kernel_rfl)
  (of_decide_eq_true (by kernel_rfl)) (by unfold Func.isWrapper; first | (rw [if_pos (by decide +kernel)]; kernel_rfl) | (rw [if_neg (by decide +kernel)]; exact ⟨rfl, rfl⟩))
  (fun os started H enc _ F => by rw [OpenClaim.pre_eq_preRow]; exact nodeWindows_lifted os started H enc F)
theorem nodeWindows_plain (f : FuncId) (fn : Func) (hf : Tryz.pinned.checked.prog.funcNamed "hourglass/hourglasslaw17.NodeWindows" = some f) (hfn : Tryz.pinned.checked.prog.funcs[f]? = some fn) :
    false = Tryz.pinned.checked.prog.looks [] ∧ ∀ (j : Nat) t, fn.params[j]? = some t → Tryz.pinned.checked.prog.wantsStandIn t = false := by
 obtain rfl : f = 8 := Option.some.inj ((show Tryz.prog.funcNamed "hourglass/hourglasslaw17.NodeWindows" = some 8 by kernel_rfl).symm.trans hf) |>.symm
 obtain rfl : fn = Tryz.f8 := (Option.some.inj (Tryz.func8.symm.trans hfn)).symm
 refine ⟨by kernel_rfl, fun j t ht => ?_⟩
 have hall : ∀ t ∈ Tryz.f8.params, Tryz.prog.wantsStandIn t = false := by
  have h : (Tryz.f8.params.toList.all fun t => !Tryz.prog.wantsStandIn t) = true := by kernel_rfl
  intro t ht
  simpa using List.all_eq_true.1 h t (Array.mem_toList_iff.2 ht)
 exact hall t (Array.mem_of_getElem? ht)
theorem nodeWindows_holds : Rows.NodeWindowsCardSaid :=
 Claim7.holds_tied_plain_at .later [] _ _ _ _ nodeWindows_said (fun _ h => by cases h) (by kernel_rfl) (fun _ h => by cases h) nodeWindows_row_tie rfl ⟨rfl, rfl⟩ (by kernel_rfl) rfl nodeWindows_plain (by kernel_rfl)
#print axioms nodeWindows_holds
end Go.Proofs.YtmflbekabkainaaGreatDoor
