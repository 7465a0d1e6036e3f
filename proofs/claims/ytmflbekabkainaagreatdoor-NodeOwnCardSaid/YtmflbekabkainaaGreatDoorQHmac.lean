import Derived.Test.YtmflbekabkainaaGreatDoorQShaSum
import Derived.Test.YtmflbekabkainaaGreatDoorQOctW
import Derived.Test.YtmflbekabkainaaGreatDoorQHgC
set_option linter.unusedVariables false
set_option linter.unusedSimpArgs false
namespace Go.Proofs.YtmflbekabkainaaGreatDoor
open Go.RowKit Go.Hg
theorem under_pad : Tryz.prog.underlying 250 = some (.array 64 5) := by kernel_rfl
theorem under_key : Tryz.prog.underlying 41 = some (.array 32 5) := by kernel_rfl
theorem under_mact : Tryz.prog.underlying 58 = some (.array 16 5) := by kernel_rfl
theorem under_parts : Tryz.prog.underlying 189 = some (.slice 33) := by kernel_rfl
theorem info_pad : (Tryz.prog.info? 250).map (fun i => (i.zero, i.size, i.bytes)) = some (some (.agg (v8 (zs 64)).toArray), 64, 64) := by kernel_rfl
theorem info_key : (Tryz.prog.info? 41).map (fun i => (i.zero, i.size, i.bytes)) = some (some (.agg (v8 (zs 32)).toArray), 32, 32) := by kernel_rfl
theorem info_mact : (Tryz.prog.info? 58).map (fun i => (i.zero, i.size, i.bytes)) = some (some (.agg (v8 (zs 16)).toArray), 16, 16) := by kernel_rfl
theorem info_bytes : (Tryz.prog.info? 33).map (fun i => (i.zero, i.size, i.bytes)) = some (some (.slice none 0 0), 1, 24) := by kernel_rfl
theorem size_pad : (Tryz.prog.info? 250).map (·.size) = some 64 := by kernel_rfl
theorem size_key : (Tryz.prog.info? 41).map (·.size) = some 32 := by kernel_rfl
theorem size_out32 : (Tryz.prog.info? 40).map (·.size) = some 32 := by kernel_rfl
theorem size_mact : (Tryz.prog.info? 58).map (·.size) = some 16 := by kernel_rfl
set_option maxRecDepth 10000 in
set_option maxHeartbeats 1000000 in
theorem padded_c {w0 w : World} {F : List SP} {kv : Value} {key : List (BitVec 8)} (H : At w0 F w) (hk : SeeB w0 F kv key) (h0 : 0 < key.length) (h64 : key.length ≤ 64) :
    Calls Tryz.prog 142 #[kv] w fun e w' => e = .returned (.agg (v8 (keyPad key)).toArray) ∧ At w0 F w' := by
 obtain ⟨a, cap, rfl, hcap, hsome⟩ := hk.slice
 obtain ⟨b, off, rfl⟩ := hsome h0
 obtain ⟨n, hn⟩ : ∃ n, n = key.length := ⟨_, rfl⟩
 rw [← hn] at hk
 rw [← hn]
 have hn64 : (n : Int) ≤ 64 := by omega
 have hmin : n = min n 64 := by omega
 have HMIN := Lib.hid hmin
 have HN := Lib.hid hn
 have hcp : (v8 (zs 64)).take 0 ++ v8 key ++ (v8 (zs 64)).drop (0 + (v8 key).length) = v8 (keyPad key) := by
  rw [v8_length, List.take_zero, List.nil_append, Nat.zero_add]
  unfold keyPad v8 zs
  rw [List.map_append, List.map_replicate, List.map_replicate, List.drop_replicate]
 have HCP := Lib.hid hcp
 have hl := Lib.hid (keyPad_length h64)
 have hsrc : ∀ (X : SP) (wr : World), At w0 (X :: F) wr → ∀ (i : Nat) (u : Value), (v8 key)[i]? = some u → wr.cell? (Addr.add ⟨b, off, none⟩ i) = some u := fun X wr Hr i u hi => by
  obtain ⟨_, _, _, _, hcells⟩ := hk.cells Hr.tail
  rw [Addr.add_lit]
  refine hcells b off rfl i u ?_
  rw [cl_c8]
  exact hi
 have hkl := Lib.hid h64
 obtain ⟨T, hT⟩ : ∃ T, T = keyPad key := ⟨_, rfl⟩
 rw [← hT] at HCP hl
 rw [← hT]
 clear hn hmin hcp h0 h64 hcap hsome hT
 go_enter Tryz.func142, Tryz.ntmps142
 go_wp2_with ((with_reducible refine wpList_op rfl ?_); intro _ hK; first
  | (refine wp_alloc_sl 250 rfl info_pad H (fun A w' (H : At w0 (raw A (v8 (zs 64)).toArray 250 :: F) w') _ => hK _ _ ?_))
  | (refine wp_copy_in (e := 5) _ _ _ _ rfl (by kernel_rfl) (by kernel_rfl) rfl rfl 0 H rfl (cs := v8 key) (by rw [v8_length, ← HN.out]; exact HMIN.out) (hsrc _ _ H) (by rw [v8_length, v8_length, zs_length]; have := hkl.out; omega) (v8_one _) (fun w' H => ?_); rw [HCP.out] at H; replace H : At w0 (raw A (v8 T).toArray 250 :: F) w' := H; refine hK _ _ ?_)
  | (refine wp_lda 250 _ rfl rfl (by kernel_rfl) (by rw [hl.out]; exact size_pad) 0 H rfl (hK _ _ ?_))
  | (refine wp_sta 250 _ _ rfl (cs := T) rfl rfl (by rw [hl.out]; exact size_pad) 0 H rfl rfl (fun w' (H : At w0 (raw A (v8 T).toArray 250 :: F) w') => hK _ _ ?_)))
 exact bodyPost_ret (v := .agg (v8 T).toArray) (results_cell_row rfl _ _ A _ _ _ _ rfl (H.heap 0 rfl) under_pad rfl (by rw [List.size_toArray, v8_length, hl.out]; exact size_pad)) rfl ⟨rfl, H.tail⟩
def NewK (w0 : World) (F : List SP) (t : TypeId) (bs : List (BitVec 8)) (e : Ending) (w' : World) : Prop := ∃ b, e = .returned (.slice (some ⟨b, 0, none⟩) bs.length bs.length) ∧ At w0 (raw b (v8 bs).toArray t :: F) w'
set_option maxRecDepth 10000 in
set_option maxHeartbeats 1000000 in
theorem with_c {w0 w : World} {F : List SP} {bs : List (BitVec 8)} (c : BitVec 8) (H : At w0 F w) (h64 : bs.length = 64) (z : Int) (hz : z = iv c) :
    Calls Tryz.prog 144 #[.agg (v8 bs).toArray, .int .u8 z] w (NewK w0 F 250 (bs.map (· ^^^ c))) := by
 subst hz
 obtain ⟨T, hT⟩ : ∃ T, T = bs.map (· ^^^ c) := ⟨_, rfl⟩
 have hTl : T.length = bs.length := by rw [hT, List.length_map]
 have h64T : T.length = 64 := by omega
 rw [← hT]
 have HTL := Lib.hid hTl
 have HT := Lib.hid hT
 have H64 := Lib.hid h64
 have H64T := Lib.hid h64T
 clear hT hTl h64 h64T
 go_enter Tryz.func144, Tryz.ntmps144
 go_wp2_with ((with_reducible refine wpList_op rfl ?_); intro _ hK; refine wp_box_sl (v := .agg (v8 bs).toArray) 250 _ rfl rfl H (fun A w' (H : At w0 (raw A (v8 bs).toArray 250 :: F) w') _ => hK _ _ ?_))
 go_loopw [6] (fun i wr => ∃ i' : Nat, i' ≤ 64 ∧ i = .int .i64 i' ∧ At w0 (raw A (v8 (over T bs i')).toArray 250 :: F) wr) (fun i _ => 64 - (intOf i).toNat)
 case atStart => exact ⟨0, by omega, rfl, by rw [over_zero]; exact H⟩
 case round =>
  clear H
  obtain ⟨i, hi, rfl, H⟩ := hrel
  by_cases h : (i : Int) < 64
  · obtain ⟨x, hx⟩ : ∃ x, x = gb bs i := ⟨_, rfl⟩
    obtain ⟨y, hy⟩ : ∃ y, y = x ^^^ c := ⟨_, rfl⟩
    have e1 : bits .xor .u8 (iv x) (iv c) = iv y := by rw [hy]; exact iv_xor8 x c
    have hc1 : (v8 (over T bs i))[i]? = some (.int .u8 (iv x)) := by
     rw [v8_get (by rw [over_length HTL.out, H64.out]; omega), over_get HTL.out (by rw [H64.out]; omega), hx]
    have hst : (over T bs i).set i y = over T bs (i + 1) := by
     have := over_set HTL.out (i := i) (by rw [H64.out]; omega)
     rw [← this, HT.out, gb_map (by rw [H64.out]; omega), ← hx, hy]
    have HST := Lib.hid hst
    have HC1 := Lib.hid hc1
    clear hx hy hst hc1
    go_wp2_with ((with_reducible refine wpList_op rfl ?_); intro _ hK; first
     | (refine wp_get 5 _ rfl rfl (by kernel_rfl) (at_raw H 0 rfl HC1.out) (hK _ _ ?_))
     | (refine wp_st8 5 _ _ rfl (i := i) (v := y) rfl rfl (by kernel_rfl) 0 H rfl (by rw [over_length HTL.out, H64.out]; omega) (fun w' H => ?_); rw [HST.out] at H; replace H : At w0 (raw A (v8 (over T bs (i + 1))).toArray 250 :: F) w' := H; refine hK _ _ ?_))
    first
     | (refine ⟨?_, ?measure⟩; iterate 220 (try apply Exists.intro); refine ⟨?rel, rfl⟩)
     | refine ⟨?rel, ?measure⟩
    case rel => exact ⟨i + 1, by omega, by go_num, H⟩
    case measure => simp [intOf]; omega
  · obtain rfl : i = 64 := by omega
    rw [over_full HTL.out H64.out.symm] at H
    go_wp2_with fail
    go_ret
    exact ⟨A, by rw [H64T.out]; rfl, H⟩
theorem seeP_two {w0 : World} {F : List SP} (q : Nat) {b : Nat} {u v : Value} {t : TypeId} {x y : List (BitVec 8)} (hk : F[q]? = some (raw b [u, v].toArray t)) (hu : SeeB w0 F u x) (hv : SeeB w0 F v y) : SeeP w0 F (.slice (some ⟨b, 0, none⟩) 2 2) [x, y] := by
 refine seeP_raw q hk rfl fun i a bs h1 h2 => ?_
 match i with
 | 0 => cases h1; cases h2; exact hu
 | 1 => cases h1; cases h2; exact hv
 | i + 2 => simp at h1
theorem seeP_one {w0 : World} {F : List SP} (q : Nat) {b : Nat} {u : Value} {t : TypeId} {x : List (BitVec 8)} (hk : F[q]? = some (raw b [u].toArray t)) (hu : SeeB w0 F u x) : SeeP w0 F (.slice (some ⟨b, 0, none⟩) 1 1) [x] := by
 refine seeP_raw q hk rfl fun i a bs h1 h2 => ?_
 match i with
 | 0 => cases h1; cases h2; exact hu
 | i + 1 => simp at h1
theorem flat_take_le (parts : List (List (BitVec 8))) (i : Nat) (bs : List (BitVec 8)) (h : parts[i]? = some bs) : (parts.take i).flatten.length + bs.length ≤ parts.flatten.length ∧ (parts.take (i + 1)).flatten = (parts.take i).flatten ++ bs := by
 have e : (parts.take (i + 1)).flatten = (parts.take i).flatten ++ bs := by
  rw [List.take_add_one, h]
  simp
 refine ⟨?_, e⟩
 have h1 : ((parts.take i).flatten ++ bs).length ≤ parts.flatten.length := by
  rw [← e]
  conv => rhs; rw [← List.take_append_drop (i + 1) parts]
  rw [List.flatten_append, List.length_append]
  omega
 rwa [List.length_append] at h1
theorem seeP_cell {w0 w : World} {F : List SP} {bb off m cap i : Nat} {vs : List Value} {u : Value} (hvs : SeeL 1 (fun v : Value => [v]) w0 F (.slice (some ⟨bb, off, none⟩) m cap) vs) (H : At w0 F w) (hu : vs[i]? = some u) : w.cell? ⟨bb, off + i, none⟩ = some u := by
 obtain ⟨_, _, _, _, hc⟩ := hvs.cells H
 refine hc bb off rfl i u ?_
 rw [cl_single]
 exact hu
set_option maxRecDepth 10000 in
set_option maxHeartbeats 2000000 in
theorem mac_c {w0 w : World} {F : List SP} {kv pv : Value} {key : List (BitVec 8)} {parts : List (List (BitVec 8))} (G : Glob w0) (H : At w0 F w) (hk : SeeB w0 F kv key) (h0 : 0 < key.length) (h64 : key.length ≤ 64) (hv : SeeP w0 F pv parts) (hpl : parts.length ≤ 1000) (hlen : parts.flatten.length ≤ 10000000000) :
    Calls Tryz.prog 129 #[kv, pv] w fun e w' => e = .returned (.agg (v8 (hmacOf key parts.flatten)).toArray) ∧ At w0 F w' := by
 have hk1 := hk.one
 obtain ⟨vs, hvl, hvs, hpb⟩ := hv
 obtain ⟨pa, cap, rfl, hcap, hsome⟩ := hvs.slice
 obtain ⟨m, hm⟩ : ∃ m, m = vs.length := ⟨_, rfl⟩
 rw [← hm] at hvs hcap hsome hvl
 rw [← hm]
 have HM := Lib.hid hm
 have HVL := Lib.hid hvl
 have HPB := Lib.hid hpb
 have HLEN := Lib.hid hlen
 have hm63 : (m : Int) ≤ 1000 := by omega
 obtain ⟨I, hI⟩ : ∃ I, I = padX key 0x36 := ⟨_, rfl⟩
 obtain ⟨X, hX⟩ : ∃ X, X = padX key 0x5c := ⟨_, rfl⟩
 obtain ⟨N, hN⟩ : ∃ N, N = sha (I ++ parts.flatten) := ⟨_, rfl⟩
 obtain ⟨T, hT⟩ : ∃ T, T = hmacOf key parts.flatten := ⟨_, rfl⟩
 rw [← hT]
 have hIl := Lib.hid (show I.length = 64 by rw [hI]; exact padX_length h64 _)
 have hXl := Lib.hid (show X.length = 64 by rw [hX]; exact padX_length h64 _)
 have hNl := Lib.hid (show N.length = 32 by rw [hN]; exact sha_length _)
 have hTl := Lib.hid (show T.length = 32 by rw [hT]; exact sha_length _)
 have hT2 := Lib.hid (show sha [X, N].flatten = T by rw [hT, hN, hX, hI]; simp [hmacOf])
 have HI := Lib.hid hI
 have HX := Lib.hid hX
 have HN := Lib.hid hN
 have hkp := Lib.hid (keyPad_length h64)
 have H0 := Lib.hid h0
 have H64 := Lib.hid h64
 obtain ⟨kp, hkpe⟩ : ∃ kp, kp = keyPad key := ⟨_, rfl⟩
 have HKP := Lib.hid hkpe
 clear hm hvl hpb hlen hT hI hX hN h0 h64 hkpe hcap
 go_enter Tryz.func129, Tryz.ntmps129
 go_wp2_with ((with_reducible refine wpList_op rfl ?_); intro _ hK; refine wp_alloc_sl 40 rfl info_out32 H (fun O w' (H : At w0 (raw O (v8 (zs 32)).toArray 40 :: F) w') _ => hK _ _ ?_))
 refine (padded_c H (hk.more _) H0.out H64.out).mono ?_; rintro e w' ⟨rfl, H⟩
 rw [← HKP.out]
 go_wp2_with ((with_reducible refine wpList_op rfl ?_); intro _ hK; first
  | (refine wp_alloc_sl 250 rfl info_pad H (fun A w' (H : At w0 (raw A (v8 (zs 64)).toArray 250 :: raw O (v8 (zs 32)).toArray 40 :: F) w') _ => hK _ _ ?_))
  | (refine wp_sta 250 _ _ rfl (cs := kp) rfl rfl (by rw [HKP.out, hkp.out]; exact size_pad) 0 H rfl (by rw [HKP.out, hkp.out]; rfl) (fun w' (H : At w0 (raw A (v8 kp).toArray 250 :: raw O (v8 (zs 32)).toArray 40 :: F) w') => hK _ _ ?_))
  | (refine wp_alloc_sl 254 rfl info_stream H (fun E w' H _ => ?_); replace H := strm_close OkS.new rfl H; replace H : At w0 (strmM E [] :: raw A (v8 kp).toArray 250 :: raw O (v8 (zs 32)).toArray 40 :: F) w' := H; refine hK _ _ ?_)
  | (refine wp_lda 250 _ rfl rfl (by kernel_rfl) (by rw [HKP.out, hkp.out]; exact size_pad) 1 H rfl (hK _ _ ?_)))
 refine (with_c 0x36 H (by rw [HKP.out, hkp.out]) _ rfl).mono ?_; rintro e w' ⟨K1, rfl, H⟩
 rw [show kp.map (· ^^^ 0x36) = I by rw [HKP.out, HI.out]; rfl] at H ⊢
 rw [hIl.out]
 go_wp2_with fail
 refine (write_c G (H.pull 1 rfl) (see_blk 0 rfl hIl.out.symm) (by rw [hIl.out]; decide)).mono ?_; rintro e w' ⟨rfl, H⟩
 rw [List.nil_append] at H
 replace H : At w0 (strmM E I :: raw K1 (v8 I).toArray 250 :: raw A (v8 kp).toArray 250 :: raw O (v8 (zs 32)).toArray 40 :: F) w' := H
 go_wp2_with fail
 go_loopw [17] (fun i wr => ∃ i' : Nat, i' ≤ m ∧ i = .int .i64 i' ∧ At w0 (strmM E (I ++ (parts.take i').flatten) :: raw K1 (v8 I).toArray 250 :: raw A (v8 kp).toArray 250 :: raw O (v8 (zs 32)).toArray 40 :: F) wr) (fun i _ => m - (intOf i).toNat)
 case atStart => exact ⟨0, by omega, rfl, by simpa using H⟩
 case round =>
  clear H
  obtain ⟨i, hi, rfl, H⟩ := hrel
  by_cases him : (i : Int) < m
  · obtain ⟨bb, off, rfl⟩ := hsome (by omega)
    obtain ⟨u, hu⟩ : ∃ u, vs[i]? = some u := ⟨_, List.getElem?_eq_getElem (by rw [← HM.out]; omega)⟩
    obtain ⟨bs, hbs⟩ : ∃ bs, parts[i]? = some bs := ⟨_, List.getElem?_eq_getElem (by rw [← HVL.out]; omega)⟩
    have HUB := Lib.hid (HPB.out i u bs hu hbs)
    obtain ⟨hl2, hsplit⟩ := flat_take_le parts i bs hbs
    have hcell : ∀ w', At w0 F w' → w'.cell? ⟨bb, off + i, none⟩ = some u := fun w' H' => seeP_cell hvs H' hu
    have HS := Lib.hid hsplit
    have HL2 := Lib.hid hl2
    clear hu hbs hsplit hl2
    go_wp2_with ((with_reducible refine wpList_op rfl ?_); intro _ hK; refine wp_get 33 _ rfl rfl (by kernel_rfl) (hcell _ H.tail.tail.tail.tail) (hK _ _ ?_))
    refine (write_c G H (((HUB.out.more _).more _).more _) (by rw [List.length_append, hIl.out]; have := HL2.out; have := HLEN.out; omega)).mono ?_; rintro e w' ⟨rfl, H⟩
    rw [List.append_assoc, ← HS.out] at H
    go_wp2_with fail
    first
     | (refine ⟨?_, ?measure⟩; iterate 220 (try apply Exists.intro); refine ⟨?rel, rfl⟩)
     | refine ⟨?rel, ?measure⟩
    case rel => exact ⟨i + 1, by omega, by go_num, H⟩
    case measure => simp [intOf]; omega
  · obtain rfl : i = m := by omega
    rw [List.take_of_length_le (by rw [← HVL.out]; omega)] at H
    go_wp2_with fail
    refine (ssum_c G H (by rw [List.length_append, hIl.out]; have := HLEN.out; omega)).mono ?_; rintro e w' ⟨rfl, H⟩
    rw [← HN.out]
    go_wp2_with ((with_reducible refine wpList_op rfl ?_); intro _ hK; first
     | (refine wp_alloc_sl 40 rfl info_out32 H (fun J w' (H : At w0 (raw J (v8 (zs 32)).toArray 40 :: strmM E (I ++ parts.flatten) :: raw K1 (v8 I).toArray 250 :: raw A (v8 kp).toArray 250 :: raw O (v8 (zs 32)).toArray 40 :: F) w') _ => hK _ _ ?_))
     | (refine wp_sta 40 _ _ rfl (cs := N) rfl rfl (by rw [hNl.out]; exact size_out32) 0 H rfl (by rw [hNl.out, zs_length]) (fun w' H => ?_); replace H : At w0 (raw J (v8 N).toArray 40 :: strmM E (I ++ parts.flatten) :: raw K1 (v8 I).toArray 250 :: raw A (v8 kp).toArray 250 :: raw O (v8 (zs 32)).toArray 40 :: F) w' := H; replace H : At w0 (raw J (v8 N).toArray 40 :: raw A (v8 kp).toArray 250 :: raw O (v8 (zs 32)).toArray 40 :: F) w' := H.maskR [true, false, false, true]; refine hK _ _ ?_))
    refine wpM_begin [5] ((At w0 (raw J (v8 N).toArray 40 :: raw A (v8 kp).toArray 250 :: raw O (v8 (zs 32)).toArray 40 :: F))) [(0, 1), (2, 2), (1, 0), (3, 0), (4, 0), (5, 0)] rfl (by kernel_rfl) (by kernel_rfl) ((H.drew)) ?_
    intro ops hOps hS
    replace H := H.drew
    refine wpM_take hOps hS rfl (fun _ _ _ h => h) (yl_lda rfl 250 _ rfl rfl (by kernel_rfl) (by rw [HKP.out, hkp.out]; exact size_pad) (fun w hw => at_blk hw 1 rfl)) ?_
    simp only [nrm]
    refine fm hOps ?_
    refine wpM_next hOps rfl rfl ?_
    intro K hK
    refine wp_call _ _ _ rfl Tryz.func144 rfl (by kernel_rfl) ?_
    simp only [List.map_toArray, List.map_cons, List.map_nil, Act.eval, Array.getD_eq_getD_getElem?, List.getElem?_toArray, List.getElem?_cons_zero, List.getElem?_cons_succ, Option.getD_some]
    refine (with_c 0x5c H (by rw [HKP.out, hkp.out]) _ rfl).mono ?_; rintro e w' ⟨K2, rfl, H⟩
    rw [show kp.map (· ^^^ 0x5c) = X by rw [HKP.out, HX.out]; rfl] at H ⊢
    rw [hXl.out]
    have hS := (H.tail)
    refine hK _ _ (.inr hS) ?_
    clear hK K
    simp only [nrm]
    refine wpM_next hOps rfl rfl ?_
    intro K hK
    refine wp_list1 _ under_parts info_bytes _ _ rfl [.slice (some ⟨K2, 0, none⟩) 64 64, .slice (some ⟨J, 0, none⟩) 32 32] rfl (by decide) (by decide) (by rw [Array.toList_map]; rfl) (by simp [Value.oneCell']) H (fun L w' H => ?_)
    have hS := (H.tail.tail)
    refine hK _ _ (.inr hS) ?_
    clear hK K
    simp only [nrm]
    refine wpM_next hOps rfl rfl ?_
    intro K hK
    refine wp_call _ _ _ rfl Tryz.func146 rfl (by kernel_rfl) ?_
    simp only [List.map_toArray, List.map_cons, List.map_nil, Act.eval, Array.getD_eq_getD_getElem?, List.getElem?_toArray, List.getElem?_cons_zero, List.getElem?_cons_succ, Option.getD_some]
    refine (sum_c G H (seeP_two (x := X) (y := N) 0 rfl (see_blk 1 rfl hXl.out.symm) (see_blk 2 rfl hNl.out.symm)) (by show 2 ≤ 1000; omega) (by simp [hXl.out, hNl.out])).mono ?_; rintro e w' ⟨rfl, H⟩
    rw [hT2.out]
    have hS := (H.tail.tail)
    refine hK _ _ (.inr hS) ?_
    clear hK K
    simp only [nrm]
    refine wpM_next hOps rfl rfl ?_
    intro K hK
    refine wp_sta 40 _ _ rfl (bs := zs 32) (cs := T) rfl rfl (by rw [hTl.out]; exact size_out32) 4 H rfl (by rw [hTl.out, zs_length]) (fun w' H => ?_)
    refine hK _ _ (.inl (by decide)) ?_
    clear hK K
    simp only [nrm]
    refine wpM_end ?_
    clear hOps hS ops
    replace H : At w0 (raw O (v8 T).toArray 40 :: F) w' := H.maskR [false, false, false, false, true]
    go_wp2_with fail
    exact bodyPost_ret (v := .agg (v8 T).toArray) (results_cell_row rfl _ _ O _ _ _ _ rfl (H.heap 0 rfl) under_out32 rfl (by rw [List.size_toArray, v8_length, hTl.out]; exact size_out32)) rfl ⟨rfl, H.tail⟩
set_option maxRecDepth 10000 in
set_option maxHeartbeats 1000000 in
theorem short_c {w0 w : World} {F : List SP} {pv : Value} {key : List (BitVec 8)} {parts : List (List (BitVec 8))} (G : Glob w0) (H : At w0 F w) (hkl : key.length = 32) (hv : SeeP w0 F pv parts) (hpl : parts.length ≤ 1000) (hlen : parts.flatten.length ≤ 10000000000) :
    Calls Tryz.prog 116 #[.agg (v8 key).toArray, pv] w fun e w' => e = .returned (.agg (v8 ((hmacOf key parts.flatten).take 16)).toArray) ∧ At w0 F w' := by
 have HKL := Lib.hid hkl
 have HV := Lib.hid hv
 obtain ⟨pa, pc, hpv, _⟩ : ∃ a c, pv = .slice a parts.length c ∧ True := by
  obtain ⟨vs, h1, h2, _⟩ := hv
  obtain ⟨a, c, h3, _⟩ := h2.slice
  exact ⟨a, c, by rw [h3, h1], trivial⟩
 subst hpv
 obtain ⟨m, hm⟩ : ∃ m, m = parts.length := ⟨_, rfl⟩
 rw [← hm] at HV
 rw [← hm]
 obtain ⟨M, hM⟩ : ∃ M, M = hmacOf key parts.flatten := ⟨_, rfl⟩
 rw [← hM]
 have HM := Lib.hid hM
 have hMl := Lib.hid (show M.length = 32 by rw [hM]; exact sha_length _)
 have hTl := Lib.hid (show (M.take 16).length = 16 by rw [List.length_take, hMl.out]; rfl)
 have HPL := Lib.hid hpl
 have HLEN := Lib.hid hlen
 clear hkl hv hM hm hpl hlen
 go_enter Tryz.func116, Tryz.ntmps116
 go_wp2_with ((with_reducible refine wpList_op rfl ?_); intro _ hK; first
  | (refine wp_box_sl (v := .agg (v8 key).toArray) 41 _ rfl rfl H (fun A w' (H : At w0 (raw A (v8 key).toArray 41 :: F) w') _ => hK _ _ ?_))
  | (refine wp_alloc_sl 58 rfl info_mact H (fun O w' (H : At w0 (raw O (v8 (zs 16)).toArray 58 :: raw A (v8 key).toArray 41 :: F) w') _ => hK _ _ ?_)))
 refine (mac_c G H (see_blk 1 rfl HKL.out.symm) (by rw [HKL.out]; omega) (by rw [HKL.out]; omega) ((HV.out.more _).more _) HPL.out HLEN.out).mono ?_; rintro e w' ⟨rfl, H⟩
 rw [← HM.out]
 go_wp2_with ((with_reducible refine wpList_op rfl ?_); intro _ hK; first
  | (refine wp_alloc_sl 40 rfl info_out32 H (fun J w' (H : At w0 (raw J (v8 (zs 32)).toArray 40 :: raw O (v8 (zs 16)).toArray 58 :: raw A (v8 key).toArray 41 :: F) w') _ => hK _ _ ?_))
  | (refine wp_sta 40 _ _ rfl (cs := M) rfl rfl (by rw [hMl.out]; exact size_out32) 0 H rfl (by rw [hMl.out, zs_length]) (fun w' H => ?_); replace H : At w0 (raw J (v8 M).toArray 40 :: raw O (v8 (zs 16)).toArray 58 :: raw A (v8 key).toArray 41 :: F) w' := H; refine hK _ _ ?_)
  | (refine wp_arr 58 _ rfl under_mact rfl (by omega) (hK _ _ ?_))
  | (refine wp_mid 58 _ rfl rfl (v8 (M.take 16)) (by kernel_rfl) (by rw [v8_length, hTl.out]; exact size_mact) (see_range H (see_blk 0 rfl hMl.out.symm) 16) (hK _ _ ?_))
  | (refine wp_sta 58 _ _ rfl (cs := M.take 16) rfl rfl (by rw [hTl.out]; exact size_mact) 1 H rfl (by rw [hTl.out, zs_length]) (fun w' H => ?_); replace H : At w0 (raw J (v8 M).toArray 40 :: raw O (v8 (M.take 16)).toArray 58 :: raw A (v8 key).toArray 41 :: F) w' := H; refine hK _ _ ?_))
 replace H : At w0 (raw O (v8 (M.take 16)).toArray 58 :: F) w' := H.maskR [false, true, false]
 exact bodyPost_ret (v := .agg (v8 (M.take 16)).toArray) (results_cell_row rfl _ _ O _ _ _ _ rfl (H.heap 0 rfl) under_mact rfl (by rw [List.size_toArray, v8_length, hTl.out]; exact size_mact)) rfl ⟨rfl, H.tail⟩
theorem sized_snoc (ps : List (List (BitVec 8))) (b : List (BitVec 8)) : sized (ps ++ [b]) = sized ps ++ (beN 4 b.length ++ b) := by simp [sized]
theorem sized_one (b : List (BitVec 8)) : sized [b] = beN 4 b.length ++ b := by simp [sized]
theorem sized_take_le (l : List (BitVec 8)) (ps : List (List (BitVec 8))) (i : Nat) : (sized (l :: ps.take i)).length ≤ (sized (l :: ps)).length := by
 have e : sized (l :: ps) = sized (l :: ps.take i) ++ sized (ps.drop i) := by
  unfold sized
  rw [← List.flatMap_append, List.cons_append, List.take_append_drop]
 rw [e, List.length_append]
 omega
set_option maxRecDepth 10000 in
set_option maxHeartbeats 2000000 in
theorem derive_c {w0 w : World} {F : List SP} {pv : Value} {key : List (BitVec 8)} {parts : List (List (BitVec 8))} (s : ByteArray) (G : Glob w0) (H : At w0 F w) (hkl : key.length = 32) (hs : s.size ≤ 1000) (hv : SeeP w0 F pv parts) (hpl : parts.length ≤ 1000) (hlen : (sized (labB s :: parts)).length ≤ 1000000) :
    Calls Tryz.prog 115 #[.agg (v8 key).toArray, .string s, pv] w fun e w' => e = .returned (.agg (v8 (deriveOf key (labB s :: parts))).toArray) ∧ At w0 F w' := by
 have HKL := Lib.hid hkl
 obtain ⟨vs, hvl, hvs, hpb⟩ := hv
 obtain ⟨pa, cap, rfl, hcap, hsome⟩ := hvs.slice
 obtain ⟨m, hm⟩ : ∃ m, m = vs.length := ⟨_, rfl⟩
 rw [← hm] at hvs hcap hsome hvl
 rw [← hm]
 have HM := Lib.hid hm
 have HVL := Lib.hid hvl
 have HPB := Lib.hid hpb
 have HLEN := Lib.hid hlen
 have hm63 : (m : Int) ≤ 1000 := by omega
 obtain ⟨T, hT⟩ : ∃ T, T = deriveOf key (labB s :: parts) := ⟨_, rfl⟩
 rw [← hT]
 have HT := Lib.hid hT
 have hTl := Lib.hid (show T.length = 32 by rw [hT]; exact deriveOf_length _ _)
 obtain ⟨l, hl⟩ : ∃ l, l = s.size := ⟨_, rfl⟩
 have hlb : (l : Int) ≤ 1000 := by omega
 have hls : (labB s).length = l := by rw [labB_length, hl]
 have hsz : (s.size : Int) = (l : Int) := by rw [hl]
 have hw32 : IntKind.u32.wrap (l : Int) = l := by rw [IntKind.wrap_u32]; omega
 have HL := Lib.hid hl
 have HLS := Lib.hid hls
 clear hkl hm hvl hpb hlen hT hl hls hs hcap
 go_enter Tryz.func115, Tryz.ntmps115
 go_wp2_with ((with_reducible refine wpList_op rfl ?_); intro _ hK; first
  | (refine wp_box_sl (v := .agg (v8 key).toArray) 41 _ rfl rfl H (fun A w' (H : At w0 (raw A (v8 key).toArray 41 :: F) w') _ => hK _ _ ?_))
  | (refine wp_alloc_sl 41 rfl info_key H (fun O w' (H : At w0 (raw O (v8 (zs 32)).toArray 41 :: raw A (v8 key).toArray 41 :: F) w') _ => hK _ _ ?_))
  | (refine wp_box_sl (v := .agg #[.slice none 0 0]) 172 _ rfl rfl H (fun p w' H _ => ?_); replace H := wri_new H; replace H : At w0 (wri p [] :: raw O (v8 (zs 32)).toArray 41 :: raw A (v8 key).toArray 41 :: F) w' := H; refine hK _ _ ?_))
 refine (wu32_c H (by omega) (by simp)).mono ?_; rintro e w' ⟨rfl, H⟩
 rw [List.nil_append] at H
 go_wp2_with ((with_reducible refine wpList_op rfl ?_); intro _ hK; refine wp_tobytes _ _ _ rfl (by kernel_rfl) under_bytes8 (by kernel_rfl) rfl H (fun B bc fr w' hbc H => ?_); replace H : At w0 (one B (.cells (bytesRow s bc) 5 fr) :: wri p (beN 4 l) :: raw O (v8 (zs 32)).toArray 41 :: raw A (v8 key).toArray 41 :: F) w' := H; have HBC := Lib.hid hbc; clear hbc; rw [← HL.out]; refine hK _ _ ?_)
 refine (wbytes_c (bs := beN 4 l) (xs := labB s) (H.pull 1 rfl) (by rw [HL.out]; exact see_str 0 rfl HBC.out) (by rw [HLS.out, beN_length]; omega)).mono ?_; rintro e w' ⟨rfl, H⟩
 rw [← HLS.out, ← sized_one] at H
 replace H : At w0 (wri p (sized [labB s]) :: raw O (v8 (zs 32)).toArray 41 :: raw A (v8 key).toArray 41 :: F) w' := H.maskR [true, false]
 go_wp2_with fail
 go_loopw [22] (fun i wr => ∃ i' : Nat, i' ≤ m ∧ i = .int .i64 i' ∧ At w0 (wri p (sized (labB s :: parts.take i')) :: raw O (v8 (zs 32)).toArray 41 :: raw A (v8 key).toArray 41 :: F) wr) (fun i _ => m - (intOf i).toNat)
 case atStart => exact ⟨0, by omega, rfl, H⟩
 case round =>
  clear H HBC
  obtain ⟨i, hi, rfl, H⟩ := hrel
  by_cases him : (i : Int) < m
  · obtain ⟨bb, off, rfl⟩ := hsome (by omega)
    obtain ⟨u, hu⟩ : ∃ u, vs[i]? = some u := ⟨_, List.getElem?_eq_getElem (by rw [← HM.out]; omega)⟩
    obtain ⟨bs, hbs⟩ : ∃ bs, parts[i]? = some bs := ⟨_, List.getElem?_eq_getElem (by rw [← HVL.out]; omega)⟩
    have hub := HPB.out i u bs hu hbs
    have hcell : ∀ w', At w0 F w' → w'.cell? ⟨bb, off + i, none⟩ = some u := fun w' H' => seeP_cell hvs H' hu
    obtain ⟨ua, uc, rfl, _, _⟩ := hub.slice
    have hsn : sized (labB s :: parts.take (i + 1)) = sized (labB s :: parts.take i) ++ (beN 4 bs.length ++ bs) := by
     rw [List.take_add_one, hbs]
     exact sized_snoc (labB s :: parts.take i) bs
    have hle := sized_take_le (labB s) parts (i + 1)
    have hbl : (sized (labB s :: parts.take i)).length + 4 + bs.length ≤ 1000000 := by
     rw [hsn, List.length_append, List.length_append, beN_length] at hle
     have := HLEN.out
     omega
    obtain ⟨q, hq⟩ : ∃ q, q = bs.length := ⟨_, rfl⟩
    rw [← hq] at hub hcell hbl hsn
    have hqb : (q : Int) ≤ 1000000 := by omega
    have hq32 : IntKind.u32.wrap (q : Int) = q := by rw [IntKind.wrap_u32]; omega
    have HQ := Lib.hid hq
    have HUB := Lib.hid hub
    have HS := Lib.hid hsn
    have HBL := Lib.hid hbl
    obtain ⟨Z, hZ⟩ : ∃ Z, Z = sized (labB s :: parts.take i) := ⟨_, rfl⟩
    rw [← hZ] at H HBL HS
    clear hu hbs hq hub hsn hle hbl hZ
    go_wp2_with ((with_reducible refine wpList_op rfl ?_); intro _ hK; refine wp_get 33 _ rfl rfl (by kernel_rfl) (hcell _ H.tail.tail.tail) (hK _ _ ?_))
    refine (wu32_c H (by omega) (by have := HBL.out; omega)).mono ?_; rintro e w' ⟨rfl, H⟩
    go_wp2_with fail
    refine (wbytes_c (xs := bs) H ((HUB.out.more _).more _) (by rw [List.length_append, beN_length, ← HQ.out]; have := HBL.out; omega)).mono ?_; rintro e w' ⟨rfl, H⟩
    rw [List.append_assoc, ← HS.out] at H
    go_wp2_with fail
    first
     | (refine ⟨?_, ?measure⟩; iterate 220 (try apply Exists.intro); refine ⟨?rel, rfl⟩)
     | refine ⟨?rel, ?measure⟩
    case rel => exact ⟨i + 1, by omega, by go_num, H⟩
    case measure => simp [intOf]; omega
  · obtain rfl : i = m := by omega
    rw [List.take_of_length_le (by rw [← HVL.out]; omega)] at H
    obtain ⟨Z, hZ⟩ : ∃ Z, Z = sized (labB s :: parts) := ⟨_, rfl⟩
    have hTZ : T = hmacOf key [Z].flatten := by rw [HT.out, hZ]; simp [deriveOf]
    have hZl : Z.length ≤ 1000000 := by rw [hZ]; exact HLEN.out
    rw [← hZ] at H
    have HTZ := Lib.hid hTZ
    have HZL := Lib.hid hZl
    clear hZ hTZ hZl
    go_wp2_with fail
    refine wpM_begin [5] ((At w0 (wri p Z :: raw O (v8 (zs 32)).toArray 41 :: raw A (v8 key).toArray 41 :: F))) [(0, 2), (1, 2), (2, 0), (3, 0), (4, 0), (5, 0)] rfl (by kernel_rfl) (by kernel_rfl) ((H.drew)) ?_
    intro ops hOps hS
    replace H := H.drew
    iterate 2 refine fm hOps ?_
    refine wpM_next hOps rfl rfl ?_
    intro K hK
    refine wp_call _ _ _ rfl Tryz.func75 rfl (by kernel_rfl) ?_
    simp only [List.map_toArray, List.map_cons, List.map_nil, Act.eval, Array.getD_eq_getD_getElem?, List.getElem?_toArray, List.getElem?_cons_zero, List.getElem?_cons_succ, Option.getD_some]
    refine (wdone_c H (by have := HZL.out; omega)).mono ?_; rintro e w' ⟨za, zq, rfl, H⟩
    obtain ⟨zl, hzl⟩ : ∃ zl, zl = Z.length := ⟨_, rfl⟩
    rw [← hzl] at H ⊢
    have HZ := Lib.hid hzl
    clear hzl
    have hS := (H.tail)
    refine hK _ _ (.inr hS) ?_
    clear hK K
    simp only [nrm]
    refine wpM_next hOps rfl rfl ?_
    intro K hK
    refine wp_list1 _ under_parts info_bytes _ _ rfl [.slice za zl zq] rfl (by decide) (by decide) (by rw [Array.toList_map]; rfl) (by simp [Value.oneCell']) H (fun L w' H => ?_)
    have hS := (H.tail.tail)
    refine hK _ _ (.inr hS) ?_
    clear hK K
    simp only [nrm]
    refine wpM_next hOps rfl rfl ?_
    intro K hK
    refine wp_call _ _ _ rfl Tryz.func129 rfl (by kernel_rfl) ?_
    simp only [List.map_toArray, List.map_cons, List.map_nil, Act.eval, Array.getD_eq_getD_getElem?, List.getElem?_toArray, List.getElem?_cons_zero, List.getElem?_cons_succ, Option.getD_some]
    refine (mac_c G H (see_blk 4 rfl HKL.out.symm) (by rw [HKL.out]; omega) (by rw [HKL.out]; omega) (seeP_one (x := Z) 0 rfl (see_own el_u8 H 1 HZ.out rfl)) (by show 1 ≤ 1000; omega) (by have := HZL.out; simp; omega)).mono ?_; rintro e w' ⟨rfl, H⟩
    rw [← HTZ.out]
    have hS := (H.tail.tail)
    refine hK _ _ (.inr hS) ?_
    clear hK K
    simp only [nrm]
    refine wpM_next hOps rfl rfl ?_
    intro K hK
    refine wp_sta 41 _ _ rfl (bs := zs 32) (cs := T) rfl rfl (by rw [hTl.out]; exact size_key) 3 H rfl (by rw [hTl.out, zs_length]) (fun w' H => ?_)
    refine hK _ _ (.inl (by decide)) ?_
    clear hK K
    simp only [nrm]
    refine wpM_end ?_
    clear hOps hS ops
    replace H : At w0 (raw O (v8 T).toArray 41 :: F) w' := H.maskR [false, false, false, true, false]
    go_wp2_with fail
    exact bodyPost_ret (v := .agg (v8 T).toArray) (results_cell_row rfl _ _ O _ _ _ _ rfl (H.heap 0 rfl) under_key rfl (by rw [List.size_toArray, v8_length, hTl.out]; exact size_key)) rfl ⟨rfl, H.tail⟩
theorem same_step {X x y : BitVec 8} {xs ys : List (BitVec 8)} {j : Nat} (hx : xs[j]? = some x) (hy : ys[j]? = some y) (h : X = 0 ↔ xs.take j = ys.take j) : X ||| (x ^^^ y) = 0 ↔ xs.take (j + 1) = ys.take (j + 1) := by
 rw [List.take_add_one, List.take_add_one, hx, hy]
 show X ||| (x ^^^ y) = 0#8 ↔ _
 rw [BitVec.or_eq_zero_iff, BitVec.xor_eq_zero_iff]
 constructor
 · rintro ⟨h1, rfl⟩
   rw [h.1 h1]
 · intro he
   have hl : (xs.take j).length = (ys.take j).length := by
    have h1 := (List.getElem?_eq_some_iff.1 hx).1
    have h2 := (List.getElem?_eq_some_iff.1 hy).1
    rw [List.length_take, List.length_take]
    omega
   obtain ⟨h1, h2⟩ := List.append_inj he hl
   exact ⟨h.2 h1, by simpa using h2⟩
set_option maxRecDepth 10000 in
set_option maxHeartbeats 1000000 in
theorem same_c {w0 w : World} {F : List SP} {va vb : Value} {xs ys : List (BitVec 8)} (H : At w0 F w) (ha : SeeB w0 F va xs) (hb : SeeB w0 F vb ys) (h0 : 0 < xs.length) (hl : xs.length = ys.length) (hsm : xs.length ≤ 1000000) :
    Calls Tryz.prog 90 #[va, vb] w fun e w' => e = .returned (.bool (decide (xs = ys))) ∧ At w0 F w' := by
 obtain ⟨a, ca, rfl, _, hsa⟩ := ha.slice
 obtain ⟨b, cb, rfl, _, hsb⟩ := hb.slice
 obtain ⟨ga, oa, rfl⟩ := hsa h0
 obtain ⟨gb', ob, rfl⟩ := hsb (by omega)
 obtain ⟨n, hn⟩ : ∃ n, n = xs.length := ⟨_, rfl⟩
 rw [← hl] at hb ⊢
 rw [← hn] at ha hb ⊢
 have hnb : (n : Int) ≤ 1000000 := by omega
 obtain ⟨B, hB⟩ : ∃ B, B = decide (xs = ys) := ⟨_, rfl⟩
 rw [← hB]
 have HB := Lib.hid hB
 have HN := Lib.hid hn
 have HL := Lib.hid hl
 have HA := Lib.hid ha
 have HBB := Lib.hid hb
 have e0 : iv (0 : BitVec 8) = 0 := rfl
 clear hB hn hl hsa hsb h0 hsm ha hb
 go_enter Tryz.func90, Tryz.ntmps90
 go_wp2_with fail
 go_loopw [14, 5] (fun i x wr => ∃ (j : Nat) (X : BitVec 8), j ≤ n ∧ i = .int .i64 j ∧ x = .int .u8 (iv X) ∧ (X = 0 ↔ xs.take j = ys.take j) ∧ At w0 F wr) (fun i _ _ => n - (intOf i).toNat)
 case atStart => exact ⟨0, 0, Nat.zero_le _, rfl, rfl, by simp, H⟩
 case round =>
  clear H e0
  obtain ⟨j, X, hj, rfl, rfl, hX, H⟩ := hrel
  have HX := Lib.hid hX
  clear hX
  by_cases hlt : (j : Int) < n
  · have hjx : xs[j]? = some (gb xs j) := gb_get (by rw [← HN.out]; omega)
    have hjy : ys[j]? = some (gb ys j) := gb_get (by rw [← HL.out, ← HN.out]; omega)
    obtain ⟨x, hx⟩ : ∃ x, x = gb xs j := ⟨_, rfl⟩
    obtain ⟨y, hy⟩ : ∃ y, y = gb ys j := ⟨_, rfl⟩
    rw [← hx] at hjx
    rw [← hy] at hjy
    have hst := same_step hjx hjy HX.out
    have hca : ∀ wr, At w0 F wr → wr.cell? ⟨ga, oa + j, none⟩ = some (.int .u8 (iv x)) := fun wr Hr => by
     have := HA.out.cell el_u8 Hr (j := 0) hjx (u := .int .u8 (iv x)) rfl
     simpa using this
    have hcb : ∀ wr, At w0 F wr → wr.cell? ⟨gb', ob + j, none⟩ = some (.int .u8 (iv y)) := fun wr Hr => by
     have := HBB.out.cell el_u8 Hr (j := 0) hjy (u := .int .u8 (iv y)) rfl
     simpa using this
    obtain ⟨z, hz⟩ : ∃ z, z = x ^^^ y := ⟨_, rfl⟩
    obtain ⟨X2, hX2⟩ : ∃ X2, X2 = X ||| z := ⟨_, rfl⟩
    rw [← hz, ← hX2] at hst
    have e1 : bits .xor .u8 (iv x) (iv y) = iv z := by rw [hz]; exact iv_xor8 x y
    have e2 : bits .or .u8 (iv X) (iv z) = iv X2 := by rw [hX2]; exact iv_or8 X z
    have hbj : (j : Int) < 1000000 := by omega
    have ew : IntKind.i64.wrap (j : Int) = j := by rw [IntKind.wrap_i64]; omega
    have HST := Lib.hid hst
    clear hx hy hz hX2 hst hjx hjy
    go_wp2_with fail
    refine wpM_begin [] ((At w0 F)) [(0, 2), (1, 2), (2, 2), (3, 2), (4, 1), (5, 2), (6, 2), (7, 2), (8, 1), (9, 2), (10, 2), (11, 0)] rfl (by kernel_rfl) (by kernel_rfl) ((H.drew)) ?_
    intro ops hOps hS
    replace H := H.drew
    iterate 4 refine fm hOps ?_
    refine tm hOps hS (fun w hw => hca _ hw) ?_
    iterate 3 refine fm hOps ?_
    refine tm hOps hS (fun w hw => hcb _ hw) ?_
    iterate 2 refine fm hOps ?_
    refine wpM_next hOps rfl rfl ?_
    intro K hK
    refine wp_run rfl ?_
    have hS := (hS)
    refine hK _ _ (.inr hS) ?_
    clear hK K
    simp only [nrm]
    refine wpM_end ?_
    clear hOps hS ops
    go_wp2_with fail
    first
     | (refine ⟨?_, ?measure⟩; iterate 220 (try apply Exists.intro); refine ⟨?rel, rfl⟩)
     | refine ⟨?rel, ?measure⟩
    case rel => exact ⟨j + 1, X2, by omega, by go_num, rfl, HST.out, H⟩
    case measure => simp [intOf]; omega
  · obtain rfl : j = n := by omega
    have hfin : (iv X == 0) = B := by
     rw [HB.out]
     have h1 := HX.out
     rw [List.take_of_length_le (by rw [HN.out]; exact Nat.le_refl _), List.take_of_length_le (by rw [HN.out, HL.out]; exact Nat.le_refl _)] at h1
     have h2 : iv X = 0 ↔ X = 0 := by
      have : (0 : Int) = iv (0 : BitVec 8) := rfl
      rw [this, iv_inj]
     rw [Bool.eq_iff_iff, beq_iff_eq, decide_eq_true_iff, h2, h1]
    go_wp2_with fail
    go_ret
    exact ⟨by simp [hfin], H⟩
end Go.Proofs.YtmflbekabkainaaGreatDoor
