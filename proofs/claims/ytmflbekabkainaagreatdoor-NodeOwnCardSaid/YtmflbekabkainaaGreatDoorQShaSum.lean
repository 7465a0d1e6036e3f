import Derived.Test.YtmflbekabkainaaGreatDoorQShaW
import Derived.Test.YtmflbekabkainaaGreatDoorQHgC
set_option linter.unusedVariables false
set_option linter.unusedSimpArgs false
namespace Go.Proofs.YtmflbekabkainaaGreatDoor
open Go.RowKit Go.Hg
attribute [local go_sem] iv_nonneg iv_32_8 iv_64_8
theorem under_arr8 : Tryz.prog.underlying 252 = some (.array 8 36) := by kernel_rfl
theorem under_out32 : Tryz.prog.underlying 40 = some (.array 32 5) := by kernel_rfl
theorem info_out32 : (Tryz.prog.info? 40).map (fun i => (i.zero, i.size, i.bytes)) = some (some (.agg (v8 (zs 32)).toArray), 32, 32) := by kernel_rfl
theorem info_stream : (Tryz.prog.info? 254).map (fun i => (i.zero, i.size, i.bytes)) = some (some (.agg (stC false (List.replicate 8 0) (List.replicate 64 0) 0).toArray), 74, 112) := by kernel_rfl
theorem info_u8 : (Tryz.prog.info? 5).map (fun i => (i.zero, i.size, i.bytes)) = some (some (.int .u8 0), 1, 1) := by kernel_rfl
theorem stC_one {b : Bool} {h : List (BitVec 32)} {part : List (BitVec 8)} {n : Nat} : ∀ u ∈ stC b h part n, u.oneCell' = true := fun u hu => by
 unfold stC at hu
 simp only [List.mem_append, List.mem_singleton] at hu
 rcases hu with ((rfl | hu) | hu) | rfl
 · rfl
 · exact v32_one _ u hu
 · exact v8_one _ u hu
 · rfl
set_option maxRecDepth 10000 in
set_option maxHeartbeats 2000000 in
theorem ssum_c {w0 w : World} {F : List SP} {p : Nat} {M : List (BitVec 8)} (G : Glob w0) (H : At w0 (strmM p M :: F) w) (hlen : M.length ≤ 100000000000) :
    Calls Tryz.prog 145 #[.pointer (some ⟨p, 0, none⟩)] w fun e w' => e = .returned (.agg (v8 (sha M)).toArray) ∧ At w0 (strmM p M :: F) w' := by
 obtain ⟨b, hs, part, O, H⟩ := strm_open H
 have hclose := Lib.hid (fun wr (H : At w0 (strm p b hs part M.length :: F) wr) => strm_close (M := M) O rfl H)
 have hO := Lib.hid O.begun
 obtain ⟨n, hn⟩ : ∃ n, n = M.length := ⟨_, rfl⟩
 rw [← hn] at H
 have hnb : (n : Int) ≤ 100000000000 := by omega
 obtain ⟨h1, hh1⟩ : ∃ h1, h1 = (if b then hs else H0) := ⟨_, rfl⟩
 rw [← hh1] at hO
 have HH1 := Lib.hid hh1
 have hl := Lib.hid O.hl
 have hl1 := Lib.hid hO.out.hl
 have hp := Lib.hid O.pl
 obtain ⟨S, hS⟩ : ∃ S : BitVec 64, S = BitVec.ofNat 64 n * 8 := ⟨_, rfl⟩
 have eS : (n : Int) * 8 = iv S := by
  rw [hS]
  unfold iv
  rw [BitVec.toNat_mul, BitVec.toNat_ofNat]
  have : (8 : BitVec 64).toNat = 8 := rfl
  rw [this]
  omega
 obtain ⟨r, hr⟩ : ∃ r, r = n % 64 := ⟨_, rfl⟩
 have er : (n : Int) % 64 = r := by omega
 have hr64 : (r : Int) < 64 := by omega
 obtain ⟨k, hk⟩ : ∃ k, k = (119 - r) % 64 := ⟨_, rfl⟩
 have ek : (119 - (r : Int)) % 64 = k := by omega
 have hk64 : (k : Int) < 64 := by omega
 obtain ⟨k1, hk1⟩ : ∃ k1, k1 = 1 + k := ⟨_, rfl⟩
 have ek1 : 1 + (k : Int) = k1 := by omega
 have hk1b : (k1 : Int) ≤ 72 := by omega
 have hk1c : k1 ≤ 72 := by omega
 have hk10 : 0 < k1 := by omega
 have hk10' : (0 : Int) < k1 := by omega
 have hrep : (List.replicate k1 (0 : BitVec 8)).set 0 128 = 128 :: zs k := by rw [hk1, Nat.add_comm, List.replicate_succ]; rfl
 have hpad : 128 :: zs k ++ be8 S = padOf M.length := by rw [hS, hk, hr, ← hn]; unfold padOf zs; rw [show 119 - n % 64 = 119 - n % 64 from rfl]; rfl
 have HPAD := Lib.hid hpad
 have HREP := Lib.hid hrep
 have HN := Lib.hid hn
 obtain ⟨T, hT⟩ : ∃ T, T = sha M := ⟨_, rfl⟩
 rw [← hT]
 have HT := Lib.hid hT
 have hTl := Lib.hid (show T.length = 32 by rw [hT]; exact sha_length M)
 have hmid : ∀ wr, At w0 (strm p b hs part n :: F) wr → wr.rangeAt p 0 (stC b hs part n) := fun wr Hr j u hj => by
  rw [Nat.zero_add]
  exact at_raw Hr 0 rfl hj
 have hlk : (zs k).length = k := zs_length k
 have HLK := Lib.hid hlk
 have HK1 := Lib.hid hk1
 clear hn hh1 O hS hr hk hk1 hpad hrep hT hlk
 go_enter Tryz.func145, Tryz.ntmps145
 go_wp2_with ((with_reducible refine wpList_op rfl ?_); intro _ hK; first
  | (refine wp_alloc_sl 40 rfl info_out32 H (fun O w' (H : At w0 (raw O (v8 (zs 32)).toArray 40 :: strm p b hs part n :: F) w') _ => hK _ _ ?_))
  | (refine wp_alloc_sl 254 rfl info_stream H (fun E w' (H : At w0 (raw E (stC false (List.replicate 8 0) (List.replicate 64 0) 0).toArray 254 :: raw O (v8 (zs 32)).toArray 40 :: strm p b hs part n :: F) w') _ => hK _ _ ?_))
  | (refine wp_mid 254 _ rfl rfl (stC b hs part n) (by kernel_rfl) (by rw [stC_length hl.out hp.out]; kernel_rfl) (hmid _ H.tail) (hK _ _ ?_))
  | (refine wp_store_row_sl 254 _ _ rfl (cells := (stC b hs part n).toArray) rfl rfl (by rw [List.size_toArray, stC_length hl.out hp.out]; kernel_rfl) (by simpa using stC_one) 0 H rfl (by rw [List.size_toArray, List.size_toArray, stC_length hl.out hp.out]; rfl) (fun w' (H : At w0 (strm E b hs part n :: raw O (v8 (zs 32)).toArray 40 :: strm p b hs part n :: F) w') => hK _ _ ?_)))
 refine (begin_c G H hl.out hp.out).mono ?_; rintro e w' ⟨rfl, H⟩
 rw [← HH1.out] at H
 go_wp2_with ((with_reducible refine wpList_op rfl ?_); intro _ hK; first
  | (refine wp_get 22 _ rfl rfl (by kernel_rfl) (at_raw H 0 rfl (stC_n hl1.out hp.out)) (hK _ _ ?_))
  | (refine wp_lmake el_u8 33 _ _ rfl under_bytes8 info_u8 (x := (0 : BitVec 8)) rfl rfl (n := k1) (cap := 72) rfl rfl hk1c (by decide) (by decide) H (fun B w' (H : At w0 (lrow 5 1 c8 (.slice (some ⟨B, 0, none⟩) k1 72) (List.replicate k1 (0 : BitVec 8)) :: strm E true h1 part n :: raw O (v8 (zs 32)).toArray 40 :: strm p b hs part n :: F) w') => hK _ _ ?_))
  | (refine wp_lstore el_u8 _ _ rfl (i := 0) (z := (128 : BitVec 8)) (v := .int .u8 128) rfl rfl rfl (by rw [List.length_replicate]; exact H) (by rw [List.length_replicate]; exact hk10) (fun w' H => ?_); rw [HREP.out] at H; replace H : At w0 (lrow 5 1 c8 (.slice (some ⟨B, 0, none⟩) (128 :: zs k).length 72) (128 :: zs k) :: strm E true h1 part n :: raw O (v8 (zs 32)).toArray 40 :: strm p b hs part n :: F) w' := H; refine hK _ _ ?_))
 go_loopw [6, 5] (fun i v wr => ∃ (a : Option Addr) (q j : Nat), j ≤ 8 ∧ i = .int .i64 (56 - 8 * (j : Int)) ∧ v = .slice a (k1 + j) q ∧ At w0 (lrow 5 1 c8 (.slice a (k1 + j) q) (128 :: zs k ++ (be8 S).take j) :: strm E true h1 part n :: raw O (v8 (zs 32)).toArray 40 :: strm p b hs part n :: F) wr) (fun i _ _ => (intOf i + 8).toNat)
 case atStart => exact ⟨_, _, 0, by omega, rfl, rfl, by simpa [HLK.out, HK1.out, Nat.add_comm] using H⟩
 case round =>
  clear H
  obtain ⟨fa, fq, j, hj, rfl, rfl, H⟩ := hrel
  by_cases h8 : j < 8
  · obtain ⟨a, ha⟩ : ∃ a, a = 56 - 8 * j := ⟨_, rfl⟩
    have ea : 56 - 8 * (j : Int) = (a : Int) := by omega
    have hab : (a : Int) ≤ 56 := by omega
    have e4 : iv S / 2 ^ a = iv (S >>> a) := iv_shr S a
    obtain ⟨x, hx⟩ : ∃ x : BitVec 8, x = (S >>> a).setWidth 8 := ⟨_, rfl⟩
    have e5 : IntKind.u8.wrap (iv (S >>> a)) = iv x := by rw [hx]; exact iv_64_8 _
    have hnx : 128 :: zs k ++ (be8 S).take (j + 1) = (128 :: zs k ++ (be8 S).take j) ++ [x] := by rw [be8_get S h8 ha, hx, List.append_assoc]
    have HNX := Lib.hid hnx
    have hk1b2 : k1 + j ≤ 80 := by omega
    have hlen : (128 :: zs k ++ (be8 S).take j).length = k1 + j := by
     rw [List.length_append, List.length_cons, HLK.out, List.length_take, HK1.out]
     have : (be8 S).length = 8 := rfl
     omega
    have HLEN := Lib.hid hlen
    have hlen2 : (128 :: zs k ++ (be8 S).take (j + 1)).length = k1 + (j + 1) := by rw [hnx, List.length_append, hlen]; rfl
    have HLEN2 := Lib.hid hlen2
    rw [ea]
    clear hx hnx ha hlen hlen2
    go_wp2_with ((with_reducible refine wpList_op rfl ?_); intro _ hK; first
     | (refine wp_lbuild el_u8 _ under_bytes8 _ rfl rfl (y := x) rfl (by decide) (by decide) H (fun C w' (H : At w0 (raw C (c8 x).toArray 5 :: lrow 5 1 c8 (.slice fa (k1 + j) fq) (128 :: zs k ++ (be8 S).take j) :: strm E true h1 part n :: raw O (v8 (zs 32)).toArray 40 :: strm p b hs part n :: F) w') => hK _ _ ?_))
     | (refine wp_lapp_one el_u8 _ under_bytes8 _ _ rfl rfl (H.pull 1 rfl) rfl 0 rfl rfl (by rw [HLEN.out]; simp only [maxLen]; omega) (by rw [HLEN.out]; omega) (fun b' q' w' H => ?_); rw [← HNX.out] at H ⊢; rw [HLEN2.out] at H ⊢; replace H := H.maskR [true, false, true]; refine hK _ _ ?_))
    first
     | (refine ⟨?_, ?measure⟩; iterate 220 (try apply Exists.intro); refine ⟨?rel, rfl⟩)
     | refine ⟨?rel, ?measure⟩
    case rel => exact ⟨b', q', j + 1, by omega, by simp only [Value.int.injEq, true_and]; omega, rfl, H⟩
    case measure => simp [intOf]; omega
  · obtain rfl : j = 8 := by omega
    have hL : k1 + 8 = (128 :: zs k ++ be8 S).length := by
     rw [List.length_append, List.length_cons, HLK.out, HK1.out]
     have : (be8 S).length = 8 := rfl
     omega
    have HL := Lib.hid hL
    clear hL
    replace H : At w0 (lrow 5 1 c8 (.slice fa (k1 + 8) fq) (128 :: zs k ++ be8 S) :: strm E true h1 part n :: raw O (v8 (zs 32)).toArray 40 :: strm p b hs part n :: F) wr := H
    have hO3 := Lib.hid hO.out
    obtain ⟨fl, hfl⟩ : ∃ fl, fl = k1 + 8 := ⟨_, rfl⟩
    rw [← hfl] at H
    rw [← hfl]
    have HFL := Lib.hid hfl
    clear hfl
    go_wp2_with fail
    refine (write_c G (strm_close hO.out HN.out (H.pull 1 rfl)) (see_own el_u8 (H.pull 1 rfl).tail 0 (HFL.out.trans HL.out) rfl) (by rw [← HL.out]; omega)).mono ?_; rintro e w' ⟨rfl, H⟩
    rw [HPAD.out] at H
    obtain ⟨b2, h2, part2, O2, H⟩ := strm_open H
    obtain rfl : b2 = true := by
     cases b2 with
     | true => rfl
     | false => have := congrArg List.length (O2.no rfl); simp [padOf, be8] at this
    have hT2 : T = h2.flatMap out4 := by rw [HT.out, O2.hm rfl]; rfl
    have hl2 := Lib.hid O2.hl
    have HT2 := Lib.hid hT2
    have hrow : ∀ w' n, At w0 (strm E true h2 part2 n :: lrow 5 1 c8 (.slice fa fl fq) (padOf M.length) :: raw O (v8 (zs 32)).toArray 40 :: strm p b hs part n :: F) w' → w'.rangeAt E 1 (v32 h2) := fun w' n H' j v hj => by
     have hj8 : j < 8 := by have := (List.getElem?_eq_some_iff.1 hj).1; rwa [v32_length, hl2.out] at this
     rw [v32_get (by rw [hl2.out]; omega)] at hj
     cases hj
     exact at_raw H' 0 rfl (stC_h hl2.out hj8)
    clear O2 hT2
    generalize (M ++ padOf M.length).length = n2 at *
    have hE : ∀ wr, At w0 (strm E true h2 part2 n2 :: lrow 5 1 c8 (.slice fa fl fq) (padOf M.length) :: raw O (v8 (zs 32)).toArray 40 :: strm p b hs part n :: F) wr → wr.rangeAt E 1 (v32 h2) := fun wr Hr j v hj => by
     have hj8 : j < 8 := by have := (List.getElem?_eq_some_iff.1 hj).1; rwa [v32_length, hl2.out] at this
     rw [v32_get (by rw [hl2.out]; omega)] at hj
     cases hj
     exact at_raw Hr 0 rfl (stC_h hl2.out hj8)
    go_wp2_with ((with_reducible refine wpList_op rfl ?_); intro _ hK; refine wp_mid 252 _ rfl rfl (v32 h2) (by kernel_rfl) (by rw [v32_length, hl2.out]; kernel_rfl) (hE _ H) (hK _ _ ?_))
    replace H := H.maskR [false, false, true]
    go_loopw [42] (fun i wr => ∃ i' : Nat, i' ≤ 8 ∧ i = .int .i64 i' ∧ At w0 (raw O (v8 (upto T 32 (4 * i'))).toArray 40 :: strm p b hs part n :: F) wr) (fun i _ => 8 - (intOf i).toNat)
    case atStart => exact ⟨0, by omega, rfl, by rw [Nat.mul_zero, upto_zero]; exact H⟩
    case round =>
     clear H hrow hE
     obtain ⟨i, hi, rfl, H⟩ := hrel
     by_cases hi8 : (i : Int) < 8
     · have hidx : ∀ w, (Instr.index 252 (.agg (v32 h2).toArray) (.int .i64 (i : Int))).run Tryz.prog w = .ok (.int .u32 (iv (gw h2 i))) w := fun w => run_index_agg under_arr8 (fun _ => by kernel_rfl) (fun _ => by kernel_rfl) (by omega) (v32_get (by rw [hl2.out]; omega)) w
       obtain ⟨x, hx⟩ : ∃ x, x = gw h2 i := ⟨_, rfl⟩
       rw [← hx] at hidx
       have HX := Lib.hid hx
       clear hx
       go_wp2_with fail
       go_loopw [46] (fun kk wr => ∃ k' : Nat, k' ≤ 4 ∧ kk = .int .i64 k' ∧ At w0 (raw O (v8 (upto T 32 (4 * i + k'))).toArray 40 :: strm p b hs part n :: F) wr) (fun kk _ => 4 - (intOf kk).toNat)
       case atStart => exact ⟨0, by omega, rfl, H⟩
       case round =>
        clear H
        obtain ⟨m, hm, rfl, H⟩ := hrel
        by_cases hm4 : (m : Int) < 4
        · obtain ⟨a, ha⟩ : ∃ a, a = 24 - 8 * m := ⟨_, rfl⟩
          have ea : 24 - 8 * (m : Int) = (a : Int) := by omega
          have hab : (a : Int) ≤ 24 := by omega
          have e4 : iv x / 2 ^ a = iv (x >>> a) := iv_shr x a
          obtain ⟨y, hy⟩ : ∃ y : BitVec 8, y = (x >>> a).setWidth 8 := ⟨_, rfl⟩
          have e5 : IntKind.u8.wrap (iv (x >>> a)) = iv y := by rw [hy]; exact iv_32_8 _
          have hT3 : gb T (4 * i + m) = y := by rw [HT2.out, flat_get (fun _ => rfl) h2 i m (by rw [hl2.out]; omega) (by omega), ← HX.out, out4_get x (by omega) ha, hy]
          obtain ⟨c, hc⟩ : ∃ c, c = 4 * i + m := ⟨_, rfl⟩
          have ec : 4 * (i : Int) + (m : Int) = (c : Int) := by omega
          have hcb : (c : Int) < 32 := by omega
          have hst : (upto T 32 c).set c y = upto T 32 (c + 1) := by rw [← hT3, ← hc]; exact upto_set hTl.out (by omega)
          rw [← hc] at H
          have HC := Lib.hid hc
          have HST := Lib.hid hst
          clear hy hT3 hc hst ha
          go_wp2_with ((with_reducible refine wpList_op rfl ?_); intro _ hK; refine wp_st8 5 _ _ rfl (i := c) (v := y) rfl rfl (by kernel_rfl) 0 H rfl (by rw [upto_length hTl.out (by omega)]; omega) (fun w' H => ?_); rw [HST.out] at H; replace H : At w0 (raw O (v8 (upto T 32 (c + 1))).toArray 40 :: strm p b hs part n :: F) w' := H; refine hK _ _ ?_)
          first
           | (refine ⟨?_, ?measure⟩; iterate 220 (try apply Exists.intro); refine ⟨?rel, rfl⟩)
           | refine ⟨?rel, ?measure⟩
          case rel => exact ⟨m + 1, by omega, by go_num, by rw [← Nat.add_assoc, ← HC.out]; exact H⟩
          case measure => simp [intOf]; omega
        · obtain rfl : m = 4 := by omega
          go_wp2_with fail
          first
           | (refine ⟨?_, ?measure⟩; iterate 220 (try apply Exists.intro); refine ⟨?rel, rfl⟩)
           | refine ⟨?rel, ?measure⟩
          case rel => exact ⟨i + 1, by omega, by go_num, by rw [Nat.mul_add, Nat.mul_one]; exact H⟩
          case measure => simp [intOf]; omega
     · obtain rfl : i = 8 := by omega
       replace H : At w0 (raw O (v8 (upto T 32 32)).toArray 40 :: strm p b hs part n :: F) wr := H
       rw [upto_full hTl.out] at H
       have hsz : (Tryz.prog.info? 40).map (·.size) = some (v8 T).length := by rw [v8_length, hTl.out]; kernel_rfl
       have HSZ := Lib.hid hsz
       clear hsz
       have hOr : ∀ wr, At w0 (raw O (v8 T).toArray 40 :: strm p b hs part n :: F) wr → wr.rangeAt O 0 (v8 T) := fun wr Hr j v hj => by
        rw [Nat.zero_add]
        exact at_raw Hr 0 rfl hj
       go_wp2_with ((with_reducible refine wpList_op rfl ?_); intro _ hK; first
        | (refine wp_mid 40 _ rfl rfl (v8 T) (by kernel_rfl) HSZ.out (hOr _ H) (hK _ _ ?_))
        | (refine wp_store_row_sl 40 _ _ rfl (cells := (v8 T).toArray) rfl rfl (by rw [List.size_toArray]; exact HSZ.out) (by simpa using v8_one T) 0 H rfl rfl (fun w' (H : At w0 (raw O (v8 T).toArray 40 :: strm p b hs part n :: F) w') => hK _ _ ?_)))
       exact bodyPost_ret (v := .agg (v8 T).toArray) (results_cell_row rfl _ _ O _ _ _ _ rfl (H.heap 0 rfl) under_out32 rfl (by simpa using HSZ.out)) rfl ⟨rfl, hclose.out _ (by rw [← HN.out]; exact H.tail)⟩
theorem cl_single : ∀ vs : List Value, cl (fun v => [v]) vs = vs
 | [] => rfl
 | v :: vs => by
  show [v] ++ cl (fun v => [v]) vs = v :: vs
  rw [cl_single vs]
  rfl
def SeeP (w0 : World) (F : List SP) (v : Value) (parts : List (List (BitVec 8))) : Prop :=
 ∃ vs : List Value, vs.length = parts.length ∧ SeeL 1 (fun v => [v]) w0 F v vs ∧ ∀ (i : Nat) u bs, vs[i]? = some u → parts[i]? = some bs → SeeB w0 F u bs
theorem SeeP.mono {w0 : World} {F G : List SP} {v : Value} {parts : List (List (BitVec 8))} (h : SeeP w0 F v parts) (f : ∀ h, seps G h → seps F h) : SeeP w0 G v parts := by
 obtain ⟨vs, h1, h2, h3⟩ := h
 exact ⟨vs, h1, h2.mono f, fun i u bs a b => (h3 i u bs a b).mono f⟩
theorem SeeP.more {w0 : World} {F : List SP} {v : Value} {parts : List (List (BitVec 8))} (h : SeeP w0 F v parts) (X : SP) : SeeP w0 (X :: F) v parts := h.mono fun _ s => sep_tail s
theorem SeeP.weak {w0 : World} {F G : List SP} {v : Value} {parts : List (List (BitVec 8))} (h : SeeP w0 F v parts) (s : F.Sublist G) : SeeP w0 G v parts := h.mono (seps_pick G F s)
theorem seeP_raw {w0 : World} {F : List SP} (q : Nat) {b : Nat} {vs : List Value} {t : TypeId} {parts : List (List (BitVec 8))} (hk : F[q]? = some (raw b vs.toArray t)) (hl : vs.length = parts.length) (h : ∀ (i : Nat) u bs, vs[i]? = some u → parts[i]? = some bs → SeeB w0 F u bs) : SeeP w0 F (.slice (some ⟨b, 0, none⟩) parts.length parts.length) parts := by
 refine ⟨vs, hl, ?_, h⟩
 have hc := cl_single vs
 rw [← hl]
 refine see_raw q hk (Nat.le_refl _) ?_
 rw [hc, List.drop_zero, List.take_length]
set_option maxRecDepth 10000 in
set_option maxHeartbeats 1000000 in
theorem sum_c {w0 w : World} {F : List SP} {v : Value} {parts : List (List (BitVec 8))} (G : Glob w0) (H : At w0 F w) (hv : SeeP w0 F v parts) (hpl : parts.length ≤ 1000) (hlen : parts.flatten.length ≤ 100000000000) :
    Calls Tryz.prog 146 #[v] w fun e w' => e = .returned (.agg (v8 (sha parts.flatten)).toArray) ∧ At w0 F w' := by
 obtain ⟨vs, hvl, hvs, hpb⟩ := hv
 obtain ⟨a, cap, rfl, hcap, hsome⟩ := hvs.slice
 obtain ⟨m, hm⟩ : ∃ m, m = vs.length := ⟨_, rfl⟩
 rw [← hm] at hvs hcap hsome hvl
 rw [← hm]
 have HM := Lib.hid hm
 have HVL := Lib.hid hvl
 have HPB := Lib.hid hpb
 have HLEN := Lib.hid hlen
 obtain ⟨T, hT⟩ : ∃ T, T = sha parts.flatten := ⟨_, rfl⟩
 rw [← hT]
 have HT := Lib.hid hT
 have hTl := Lib.hid (show T.length = 32 by rw [hT]; exact sha_length _)
 have hm63 : (m : Int) ≤ 1000 := by omega
 clear hm hvl hpb hlen hT
 go_enter Tryz.func146, Tryz.ntmps146
 go_wp2_with ((with_reducible refine wpList_op rfl ?_); intro _ hK; first
  | (refine wp_alloc_sl 40 rfl info_out32 H (fun O w' (H : At w0 (raw O (v8 (zs 32)).toArray 40 :: F) w') _ => hK _ _ ?_))
  | (refine wp_alloc_sl 254 rfl info_stream H (fun E w' (H : At w0 (strm E false (List.replicate 8 0) (List.replicate 64 0) 0 :: raw O (v8 (zs 32)).toArray 40 :: F) w') _ => hK _ _ ?_)))
 have H := strm_close OkS.new rfl H
 go_loopw [8] (fun i wr => ∃ i' : Nat, i' ≤ m ∧ i = .int .i64 i' ∧ At w0 (strmM E (parts.take i').flatten :: raw O (v8 (zs 32)).toArray 40 :: F) wr) (fun i _ => m - (intOf i).toNat)
 case atStart => exact ⟨0, by omega, rfl, H⟩
 case round =>
  clear H
  obtain ⟨i, hi, rfl, H⟩ := hrel
  by_cases him : (i : Int) < m
  · obtain ⟨bb, off, rfl⟩ := hsome (by omega)
    obtain ⟨u, hu⟩ : ∃ u, vs[i]? = some u := ⟨_, List.getElem?_eq_getElem (by rw [← HM.out]; omega)⟩
    obtain ⟨bs, hbs⟩ : ∃ bs, parts[i]? = some bs := ⟨_, List.getElem?_eq_getElem (by rw [← HVL.out]; omega)⟩
    have hub := HPB.out i u bs hu hbs
    have hcell : ∀ w', At w0 F w' → w'.cell? ⟨bb, off + i, none⟩ = some u := fun w' H' => by
     obtain ⟨_, _, _, _, hc⟩ := hvs.cells H'
     refine hc bb off rfl i u ?_
     rw [cl_single]
     exact hu
    have hsplit : (parts.take (i + 1)).flatten = (parts.take i).flatten ++ bs := by
     rw [List.take_add_one, hbs]
     simp
    have hl2 : (parts.take i).flatten.length + bs.length ≤ 1000000000000 := by
     have h1 : ((parts.take i).flatten ++ bs).length ≤ parts.flatten.length := by
      rw [← hsplit]
      conv => rhs; rw [← List.take_append_drop (i + 1) parts]
      rw [List.flatten_append, List.length_append]
      omega
     have := HLEN.out
     rw [List.length_append] at h1
     omega
    have HS := Lib.hid hsplit
    have HUB := Lib.hid hub
    have HL2 := Lib.hid hl2
    clear hu hbs hub hsplit hl2
    go_wp2_with ((with_reducible refine wpList_op rfl ?_); intro _ hK; refine wp_get 33 _ rfl rfl (by kernel_rfl) (hcell _ H.tail.tail) (hK _ _ ?_))
    refine (write_c G H (HUB.out.more _) HL2.out).mono ?_; rintro e w' ⟨rfl, H⟩
    rw [← HS.out] at H
    go_wp2_with fail
    first
     | (refine ⟨?_, ?measure⟩; iterate 220 (try apply Exists.intro); refine ⟨?rel, rfl⟩)
     | refine ⟨?rel, ?measure⟩
    case rel => exact ⟨i + 1, by omega, by go_num, H⟩
    case measure => simp [intOf]; omega
  · obtain rfl : i = m := by omega
    rw [List.take_of_length_le (by rw [← HVL.out]; omega)] at H
    go_wp2_with fail
    refine (ssum_c G H HLEN.out).mono ?_; rintro e w' ⟨rfl, H⟩
    rw [← HT.out]
    have hsz : (Tryz.prog.info? 40).map (·.size) = some (v8 T).length := by rw [v8_length, hTl.out]; kernel_rfl
    have HSZ := Lib.hid hsz
    clear hsz
    replace H := H.tail
    go_wp2_with ((with_reducible refine wpList_op rfl ?_); intro _ hK; refine wp_store_row_sl 40 _ _ rfl (cells := (v8 T).toArray) rfl rfl (by rw [List.size_toArray]; exact HSZ.out) (by simpa using v8_one T) 0 H rfl (by rw [List.size_toArray, List.size_toArray, v8_length, v8_length, hTl.out]; rfl) (fun w' (H : At w0 (raw O (v8 T).toArray 40 :: F) w') => hK _ _ ?_))
    exact bodyPost_ret (v := .agg (v8 T).toArray) (results_cell_row rfl _ _ O _ _ _ _ rfl (H.heap 0 rfl) under_out32 rfl (by simpa using HSZ.out)) rfl ⟨rfl, H.tail⟩
end Go.Proofs.YtmflbekabkainaaGreatDoor
