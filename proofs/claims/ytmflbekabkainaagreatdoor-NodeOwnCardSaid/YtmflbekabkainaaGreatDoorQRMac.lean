import Derived.Test.YtmflbekabkainaaGreatDoorQRCha
import Derived.Test.YtmflbekabkainaaGreatDoorQOnionB
set_option linter.unusedVariables false
set_option linter.unusedSimpArgs false
namespace Go.Proofs.YtmflbekabkainaaGreatDoor
open Go.RowKit Go.Hg
theorem pad_snoc {key : List (BitVec 8)} {x : BitVec 8} {c : Nat} (hk : key.length ≤ 64) (hc : c < 64) : (padX key x).take c ++ [gb (keyPad key) c ^^^ x] = (padX key x).take (c + 1) := by
 have hl := keyPad_length hk
 rw [List.take_add_one]
 unfold padX
 rw [List.getElem?_map, gb_get (by omega)]
 rfl
theorem keyPad_in {key : List (BitVec 8)} {c : Nat} (hc : c < key.length) : key[c]? = some (gb (keyPad key) c) := by
 have h : (keyPad key)[c]? = some (gb (keyPad key) c) := gb_get (by unfold keyPad; rw [List.length_append]; omega)
 unfold keyPad at h
 rwa [List.getElem?_append_left hc] at h
theorem keyPad_out {key : List (BitVec 8)} {c : Nat} (hk : key.length ≤ 64) (hc : ¬ c < key.length) (h64 : c < 64) : gb (keyPad key) c = 0 := gb_of (by
 unfold keyPad
 rw [List.getElem?_append_right (by omega)]
 unfold zs
 rw [List.getElem?_replicate, if_pos (by omega)])
set_option maxRecDepth 10000 in
set_option maxHeartbeats 1000000 in
theorem RPad_c {w0 w : World} {F : List SP} {key : List (BitVec 8)} {x : BitVec 8} (H : At w0 F w) (hk : key.length ≤ 64) : Calls Tryz.prog 128 #[.string (sB key), .int .u8 (iv x)] w fun r w' => r = .returned (.string (sB (padX key x))) ∧ At w0 F w' := by
 obtain ⟨n, hn⟩ : ∃ n, n = key.length := ⟨_, rfl⟩
 have hsz : (sB key).size = n := by rw [sB_size, hn]
 have hn64 : ¬ (64 : Int) < (n : Int) := by omega
 have HN := Lib.hid hn
 have HK := Lib.hid hk
 clear hn hk
 go_enter Tryz.func128, Tryz.ntmps128
 go_wp2_with fail
 go_loopw [5, 6] (fun s i wr => ∃ c : Nat, c ≤ 64 ∧ s = .string (sB ((padX key x).take c)) ∧ i = .int .i64 (c : Int) ∧ At w0 F wr) (fun _ i _ => 64 - (intOf i).toNat)
 case atStart => exact ⟨0, by omega, rfl, rfl, H⟩
 case round =>
  clear H
  obtain ⟨c, hc, rfl, rfl, H⟩ := hrel
  by_cases hc64 : c < 64
  · have hc2 : (c : Int) < 64 := by omega
    obtain ⟨b, hb⟩ : ∃ b, b = gb (keyPad key) c := ⟨_, rfl⟩
    obtain ⟨Z, hZ⟩ : ∃ Z, Z = (padX key x).take c := ⟨_, rfl⟩
    have hZl := Lib.hid (show Z.length = c by rw [hZ, List.length_take, padX_length HK.out]; omega)
    have hnx := Lib.hid (show Z ++ [b ^^^ x] = (padX key x).take (c + 1) by rw [hZ, hb]; exact pad_snoc HK.out hc64)
    have e1 : bits .xor .u8 (iv b) (iv x) = iv (b ^^^ x) := iv_xor8 b x
    rw [← hZ]
    by_cases hcn : c < n
    · have hc3 : (c : Int) < (n : Int) := by omega
      have HB := Lib.hid (show key[c]? = some b by rw [hb]; exact keyPad_in (by rw [← HN.out]; exact hcn))
      clear hb hZ
      go_wp2_with ((with_reducible refine wpList_op rfl ?_); intro _ hK; first
      | (refine dst_is 23 rfl ?_; refine wp_run (exec_sidx rfl under_strT rfl rfl HB.out _) (hK _ _ ?_))
              | (refine dst_is 28 rfl ?_; refine wp_lbuild el_u8 33 under_bytesT _ rfl rfl (y := b ^^^ x) rfl (by omega) (by omega) H (fun B w' H => hK _ _ ?_))
              | (refine dst_is 29 rfl ?_; refine wp_run (exec_str_of (bs := [b ^^^ x]) rfl under_bytesT under_u8T under_strT rfl H (see_raw (c := c8) (xs := [b ^^^ x]) (cap := 1) 0 rfl (by simp) rfl)) ?_; replace H := H.tail; refine hK _ _ ?_)
              | (refine dst_is 30 rfl ?_; refine wp_sadd _ _ _ _ rfl (u := Z) (v := [b ^^^ x]) rfl rfl (by rw [hZl.out]; simp; omega) ?_; rw [hnx.out]; refine hK _ _ ?_))
      first
       | (refine ⟨?_, ?measure⟩; iterate 220 (try apply Exists.intro); refine ⟨?rel, rfl⟩)
       | refine ⟨?rel, ?measure⟩
      case rel => exact ⟨c + 1, by omega, rfl, by go_num, H⟩
      case measure => simp [intOf]; omega
    · have hc3 : ¬ (c : Int) < (n : Int) := by omega
      have hb0 : b = 0 := by rw [hb]; exact keyPad_out HK.out (by rw [← HN.out]; exact hcn) hc64
      have e0 : bits .xor .u8 0 (iv x) = iv (b ^^^ x) := by rw [← e1, hb0]; rfl
      clear hb hZ hb0
      go_wp2_with ((with_reducible refine wpList_op rfl ?_); intro _ hK; first
              | (refine dst_is 28 rfl ?_; refine wp_lbuild el_u8 33 under_bytesT _ rfl rfl (y := b ^^^ x) rfl (by omega) (by omega) H (fun B w' H => hK _ _ ?_))
              | (refine dst_is 29 rfl ?_; refine wp_run (exec_str_of (bs := [b ^^^ x]) rfl under_bytesT under_u8T under_strT rfl H (see_raw (c := c8) (xs := [b ^^^ x]) (cap := 1) 0 rfl (by simp) rfl)) ?_; replace H := H.tail; refine hK _ _ ?_)
              | (refine dst_is 30 rfl ?_; refine wp_sadd _ _ _ _ rfl (u := Z) (v := [b ^^^ x]) rfl rfl (by rw [hZl.out]; simp; omega) ?_; rw [hnx.out]; refine hK _ _ ?_))
      first
       | (refine ⟨?_, ?measure⟩; iterate 220 (try apply Exists.intro); refine ⟨?rel, rfl⟩)
       | refine ⟨?rel, ?measure⟩
      case rel => exact ⟨c + 1, by omega, rfl, by go_num, H⟩
      case measure => simp [intOf]; omega
  · obtain rfl : c = 64 := by omega
    have hc2 : ¬ (64 : Int) < 64 := by omega
    have hf := Lib.hid (show (padX key x).take 64 = padX key x by rw [← padX_length HK.out x, List.take_length])
    rw [hf.out]
    clear hc hc64
    go_wp2_with fail
    go_ret
    exact ⟨rfl, H⟩
set_option maxRecDepth 10000 in
set_option maxHeartbeats 1000000 in
theorem RHMAC_c {w0 w : World} {F : List SP} {key M : List (BitVec 8)} (H : At w0 F w) (hk : key.length ≤ 64) (hM : M.length ≤ 900000) : Calls Tryz.prog 110 #[.string (sB key), .string (sB M)] w fun r w' => r = .returned (.string (sB (hmacOf key M))) ∧ At w0 F w' := by
 have l1 := Lib.hid (padX_length hk 0x36)
 have l2 := Lib.hid (padX_length hk 0x5c)
 obtain ⟨X, hX⟩ : ∃ X, X = padX key 0x36 := ⟨_, rfl⟩
 obtain ⟨Y, hY⟩ : ∃ Y, Y = padX key 0x5c := ⟨_, rfl⟩
 rw [← hX] at l1
 rw [← hY] at l2
 obtain ⟨Z, hZ⟩ : ∃ Z, Z = sha (X ++ M) := ⟨_, rfl⟩
 have l3 := Lib.hid (show Z.length = 32 by rw [hZ, sha_length])
 have hR := Lib.hid (show hmacOf key M = sha (Y ++ Z) by rw [hZ, hX, hY]; rfl)
 have HX := Lib.hid hX
 have HY := Lib.hid hY
 have HZ := Lib.hid hZ
 have HM := Lib.hid hM
 clear hX hY hZ hM
 rw [hR.out]
 go_enter Tryz.func110, Tryz.ntmps110
 go_wp2_with fail
 refine (RPad_c (x := 0x5c) H hk).mono ?_; rintro e w' ⟨rfl, H⟩
 rw [← HY.out]
 go_wp2_with fail
 refine (RPad_c (x := 0x36) H hk).mono ?_; rintro e w' ⟨rfl, H⟩
 rw [← HX.out]
 go_wp2_with ((with_reducible refine wpList_op rfl ?_); intro _ hK; (refine wp_sadd _ _ _ _ rfl (u := X) (v := M) rfl rfl (by rw [l1.out]; have := HM.out; omega) (hK _ _ ?_)))
 refine (RSum_c (M := X ++ M) H (by rw [List.length_append, l1.out]; have := HM.out; omega)).mono ?_; rintro e w' ⟨rfl, H⟩
 rw [show shaOf K0 H0 (X ++ M) = Z from HZ.out.symm]
 go_wp2_with ((with_reducible refine wpList_op rfl ?_); intro _ hK; (refine wp_sadd _ _ _ _ rfl (u := Y) (v := Z) rfl rfl (by rw [l2.out, l3.out]; omega) (hK _ _ ?_)))
 refine (RSum_c (M := Y ++ Z) H (by rw [List.length_append, l2.out, l3.out]; omega)).mono ?_; rintro e w' ⟨rfl, H⟩
 go_wp2_with fail
 go_ret
 exact ⟨rfl, H⟩
def strC (b : List (BitVec 8)) : List Value := [.string (sB b)]
theorem el_strC : El Tryz.prog 9 1 16 strC := ⟨⟨.string ByteArray.empty, by kernel_rfl, rfl⟩, fun _ => rfl, fun x u hu => by simp [strC] at hu; subst hu; rfl⟩
theorem under_strs : Tryz.prog.underlying 229 = some (.slice 9) := by kernel_rfl
theorem sized_bound : ∀ (ps : List (List (BitVec 8))), (∀ p ∈ ps, p.length ≤ 1000) → (sized ps).length ≤ 1004 * ps.length
 | [], _ => by simp [sized]
 | p :: ps, h => by
  have h1 := sized_bound ps fun q hq => h q (List.mem_cons_of_mem _ hq)
  have h2 := h p List.mem_cons_self
  have e : sized (p :: ps) = (beN 4 p.length ++ p) ++ sized ps := by simp [sized]
  rw [e, List.length_append, List.length_append, beN_length, List.length_cons]
  omega
theorem see_strcell {w0 w : World} {F : List SP} {b off n cap i : Nat} {ps : List (List (BitVec 8))} {p : List (BitVec 8)} (H : At w0 F w) (h : SeeL 1 strC w0 F (.slice (some ⟨b, off, none⟩) n cap) ps) (hx : ps[i]? = some p) : w.cell? ⟨b, off + i, none⟩ = some (.string (sB p)) := by
 have := h.cell (j := 0) (u := .string (sB p)) el_strC H hx rfl
 simpa using this
set_option maxRecDepth 10000 in
set_option maxHeartbeats 1000000 in
theorem RDerive_c {w0 w : World} {F : List SP} {key label : List (BitVec 8)} {pv : Value} {parts : List (List (BitVec 8))} (H : At w0 F w) (hk : key.length ≤ 64) (hll : label.length ≤ 1000) (hp : parts.length ≤ 10) (hps : ∀ p ∈ parts, p.length ≤ 1000) (hv : SeeL 1 strC w0 F pv parts) :
    Calls Tryz.prog 123 #[.string (sB key), .string (sB label), pv] w fun r w' => r = .returned (.string (sB (deriveOf key (label :: parts)))) ∧ At w0 F w' := by
 obtain ⟨a, cap, rfl, hcap, hsome⟩ := hv.slice
 obtain ⟨m, hm⟩ : ∃ m, m = parts.length := ⟨_, rfl⟩
 rw [← hm] at hv hsome ⊢
 obtain ⟨l, hl⟩ : ∃ l, l = label.length := ⟨_, rfl⟩
 have hsz : (sB label).size = l := by rw [sB_size, hl]
 have e1 : IntKind.u64.wrap (l : Int) = (l : Int) := by rw [IntKind.wrap_u64]; omega
 have HL := Lib.hid hl
 have HM := Lib.hid hm
 have HK := Lib.hid hk
 have HV := Lib.hid hv
 have HS := Lib.hid hsome
 have HP := Lib.hid hps
 have h10 := Lib.hid (show m ≤ 10 by omega)
 have h1000 := Lib.hid (show l ≤ 1000 by omega)
 have hone := Lib.hid (show beN 4 l ++ label = sized (label :: parts.take 0) by rw [List.take_zero, sized_one, hl])
 have hsb := Lib.hid (show ∀ c, (sized (label :: parts.take c)).length ≤ 1004 * 11 from fun c => by
  have h := sized_bound (label :: parts.take c) (fun p hq => by
   rcases List.mem_cons.1 hq with rfl | hq
   · exact hll
   · exact hps p (List.mem_of_mem_take hq))
  rw [List.length_cons, List.length_take] at h
  omega)
 clear hl hm hk hv hsome hps hp hll hcap
 go_enter Tryz.func123, Tryz.ntmps123
 go_wp2_with fail
 refine (RText_c (n := l) (k := 4) H (by have := h1000.out; omega) (by omega)).mono ?_; rintro e w' ⟨rfl, H⟩
 go_wp2_with ((with_reducible refine wpList_op rfl ?_); intro _ hK; (refine wp_sadd _ _ _ _ rfl (u := beN 4 l) (v := label) rfl rfl (by rw [beN_length, ← HL.out]; have := h1000.out; omega) ?_; rw [hone.out]; refine hK _ _ (Stop.go ?_)))
 refine Stop.un ?_
 go_wp2_with fail
 go_loopw [7, 8] (fun s i wr => ∃ c : Nat, c ≤ m ∧ s = .string (sB (sized (label :: parts.take c))) ∧ i = .int .i64 (c : Int) ∧ At w0 F wr) (fun _ i _ => m - (intOf i).toNat)
 case atStart => exact ⟨0, by omega, rfl, rfl, H⟩
 case round =>
  clear H
  obtain ⟨c, hc, rfl, rfl, H⟩ := hrel
  by_cases hcm : c < m
  · have hc2 : (c : Int) < (m : Int) := by omega
    obtain ⟨p, hp⟩ : ∃ p, parts[c]? = some p := ⟨_, List.getElem?_eq_getElem (by rw [← HM.out]; omega)⟩
    obtain ⟨g, off, rfl⟩ := HS.out (by omega)
    obtain ⟨pn, hpn⟩ : ∃ n, n = p.length := ⟨_, rfl⟩
    have hszp : (sB p).size = pn := by rw [sB_size, hpn]
    have hp1 := Lib.hid (show pn ≤ 1000 by rw [hpn]; exact HP.out p (List.mem_of_getElem? hp))
    have e2 : IntKind.u64.wrap (pn : Int) = (pn : Int) := by rw [IntKind.wrap_u64]; have := hp1.out; omega
    have ew : IntKind.i64.wrap ((c : Int) + 1) = (c : Int) + 1 := by rw [IntKind.wrap_i64]; have := h10.out; omega
    obtain ⟨Z, hZ⟩ : ∃ Z, Z = sized (label :: parts.take c) := ⟨_, rfl⟩
    have hZl := Lib.hid (show Z.length ≤ 1004 * 11 by rw [hZ]; exact hsb.out c)
    have hnx := Lib.hid (show (Z ++ beN 4 pn) ++ p = sized (label :: parts.take (c + 1)) by
     rw [hZ, hpn, List.take_add_one, hp, List.append_assoc]
     exact (sized_snoc (label :: parts.take c) p).symm)
    have HPN := Lib.hid hpn
    have HPP := Lib.hid hp
    rw [← hZ]
    clear hp hpn hZ
    go_wp2_with fail
    refine wpM_begin [] ((At w0 F)) [(0, 2), (1, 2), (2, 2), (3, 2), (4, 1), (5, 2), (6, 2), (9, 2), (10, 2), (11, 2), (12, 1), (7, 0), (8, 2), (13, 2), (14, 0)] rfl (by kernel_rfl) (by kernel_rfl) ((H.drew)) ?_
    intro ops hOps hS
    replace H := H.drew
    iterate 4 refine fm hOps ?_
    refine tm hOps hS (fun w hw => see_strcell hw HV.out HPP.out) ?_
    iterate 5 refine fm hOps ?_
    refine tm hOps hS (fun w hw => see_strcell hw HV.out HPP.out) ?_
    refine wpM_next hOps rfl rfl ?_
    intro K hK
    refine wp_call _ _ _ rfl Tryz.func108 rfl (by kernel_rfl) ?_
    simp only [List.map_toArray, List.map_cons, List.map_nil, Act.eval, Array.getD_eq_getD_getElem?, List.getElem?_toArray, List.getElem?_cons_zero, List.getElem?_cons_succ, Option.getD_some]
    refine (RText_c (n := pn) (k := 4) H (by have := hp1.out; omega) (by omega)).mono ?_; rintro e w' ⟨rfl, H⟩
    have hS := (H)
    refine hK _ _ (.inr hS) ?_
    clear hK K
    simp only [nrm]
    refine wpM_free hOps rfl (fun _ _ _ h => h) (yl rfl (fun w _ => exec_sadd (u := Z) (v := beN 4 pn) rfl rfl rfl (by rw [beN_length]; have := hZl.out; omega) w)) ?_
    simp only [nrm]
    refine wpM_free hOps rfl (fun _ _ _ h => h) (yl rfl (fun w _ => exec_sadd (u := Z ++ beN 4 pn) (v := p) rfl rfl rfl (by rw [List.length_append, beN_length, ← HPN.out]; have := hZl.out; have := hp1.out; omega) w)) ?_
    simp only [nrm]
    refine wpM_next hOps rfl rfl ?_
    intro K hK
    refine wp_run rfl ?_
    have hS := (hS)
    refine hK _ _ (.inr hS) ?_
    clear hK K
    simp only [nrm]
    refine wpM_end ?_
    clear hOps hS ops
    rw [hnx.out]
    go_wp2_with fail
    first
     | (refine ⟨?_, ?measure⟩; iterate 220 (try apply Exists.intro); refine ⟨?rel, rfl⟩)
     | refine ⟨?rel, ?measure⟩
    case rel => exact ⟨c + 1, by omega, rfl, by go_num, H⟩
    case measure => simp [intOf]; omega
  · obtain rfl : c = m := by omega
    have hc2 : ¬ (c : Int) < (c : Int) := by omega
    have hf := Lib.hid (show parts.take c = parts by rw [HM.out, List.take_length])
    have hfl := Lib.hid (show (sized (label :: parts)).length ≤ 1004 * 11 by rw [← hf.out]; exact hsb.out c)
    rw [hf.out]
    clear hc hcm
    go_wp2_with fail
    refine (RHMAC_c H HK.out (by have := hfl.out; omega)).mono ?_; rintro e w' ⟨rfl, H⟩
    go_wp2_with fail
    go_ret
    exact ⟨rfl, H⟩
theorem str_info : (Tryz.prog.info? 9).map (fun i => (i.zero, i.size, i.bytes)) = some (some (.string ByteArray.empty), 1, 16) := by kernel_rfl
set_option maxRecDepth 10000 in
set_option maxHeartbeats 1000000 in
theorem RD11_c {w0 w : World} {F : List SP} {key label e n : List (BitVec 8)} (H : At w0 F w) (hk : key.length ≤ 64) (hll : label.length ≤ 1000) (he : e.length ≤ 1000) (hn : n.length ≤ 1000) :
    Calls Tryz.prog 101 #[.string (sB key), .string (sB label), .string (sB e), .string (sB n)] w fun r w' => r = .returned (.string (sB (deriveOf key [label, e, n]))) ∧ At w0 F w' := by
 have HK := Lib.hid hk
 have HL := Lib.hid hll
 have HE := Lib.hid he
 have HN := Lib.hid hn
 clear hk hll he hn
 go_enter Tryz.func101, Tryz.ntmps101
 go_wp2_with ((with_reducible refine wpList_op rfl ?_); intro _ hK; (refine dst_is 13 rfl ?_; refine wp_listn 229 under_strs str_info _ _ rfl [.string (sB e), .string (sB n)] rfl (by decide) (by decide) (by rw [Array.toList_map]; rfl) (by intro v hv; simp at hv; rcases hv with rfl | rfl <;> rfl) H (fun D w' H => ?_); replace H : At w0 (raw D (cl strC [e, n]).toArray 9 :: F) w' := H; refine hK _ _ (Stop.go ?_)))
 refine Stop.un ?_
 go_wp2_with fail
 refine (RDerive_c (parts := [e, n]) (pv := .slice (some ⟨D, 0, none⟩) 2 2) H HK.out HL.out (by simp) (fun p hp => by
  simp at hp
  rcases hp with rfl | rfl
  · exact HE.out
  · exact HN.out) (see_raw (c := strC) (cap := 2) (xs := [e, n]) 0 rfl (by simp) (by rw [List.drop_zero, List.take_length]))).mono ?_; rintro e' w' ⟨rfl, H⟩
 go_wp2_with fail
 go_ret
 exact ⟨rfl, H.tail⟩
def rpC (p : PktD) : List Value := [.string (sB (beN 2 p.who)), .string (sB (beN 4 p.epoch)), .string (sB p.nonce), .string (sB p.mac), .string (sB p.head), .string (sB p.body)]
theorem rp_info : (Tryz.prog.info? 62).map (fun i => (i.zero, i.size, i.bytes)) = some (some (.agg (List.replicate 6 (Value.string ByteArray.empty)).toArray), 6, 96) := by kernel_rfl
theorem rp_size : (Tryz.prog.info? 62).map (·.size) = some 6 := by kernel_rfl
theorem macOf_eq (key : List (BitVec 8)) (p : PktD) : macOf key p = (hmacOf (deriveOf key [[109, 97, 99], beN 4 p.epoch, p.nonce]) (beN 2 p.who ++ beN 4 p.epoch ++ p.nonce ++ p.head ++ p.body)).take 16 := rfl
structure _root_.Go.Hg.PktD.lens (p : PktD) : Prop where
 nonce : p.nonce.length = 16
 head : p.head.length = 320
 body : p.body.length = 256
set_option maxRecDepth 10000 in
set_option maxHeartbeats 2000000 in
theorem RMAC11_l {w0 w : World} {F : List SP} {key : List (BitVec 8)} {p : PktD} (H : At w0 F w) (hk : key.length ≤ 64) (po : p.lens) :
    Calls Tryz.prog 83 #[.string (sB key), .agg (rpC p).toArray] w fun r w' => r = .returned (.string (sB (macOf key p))) ∧ At w0 F w' := by
 have HK := Lib.hid hk
 have PO := Lib.hid po
 obtain ⟨D, hD⟩ : ∃ D, D = deriveOf key [[109, 97, 99], beN 4 p.epoch, p.nonce] := ⟨_, rfl⟩
 have hDl := Lib.hid (show D.length ≤ 64 by rw [hD, deriveOf_length]; omega)
 have hR := Lib.hid (show macOf key p = (hmacOf D (beN 2 p.who ++ beN 4 p.epoch ++ p.nonce ++ p.head ++ p.body)).take 16 by rw [macOf_eq, hD])
 have HD := Lib.hid hD
 have hl := Lib.hid (show (beN 2 p.who ++ beN 4 p.epoch ++ p.nonce ++ p.head ++ p.body).length ≤ 900000 by
  simp only [List.length_append, beN_length, po.nonce, po.head, po.body]
  omega)
 have l1 := Lib.hid (show (beN 2 p.who ++ beN 4 p.epoch ++ p.nonce ++ p.head).length = 342 by simp only [List.length_append, beN_length, po.nonce, po.head])
 have l2 := Lib.hid (show (beN 2 p.who ++ beN 4 p.epoch ++ p.nonce).length = 22 by simp only [List.length_append, beN_length, po.nonce])
 have l3 := Lib.hid (show (beN 2 p.who ++ beN 4 p.epoch).length = 6 by simp only [List.length_append, beN_length])
 clear hk po hD
 rw [hR.out]
 go_enter Tryz.func83, Tryz.ntmps83
 go_wp2_with ((with_reducible refine wpList_op rfl ?_); intro _ hK; (refine dst_is 3 rfl ?_; refine wp_box_sl (v := .agg (rpC p).toArray) 62 _ rfl rfl H (fun R w' (H : At w0 (raw R (rpC p).toArray 62 :: F) w') _ => hK _ _ ?_)))
 refine wpM_begin [] ((At w0 (raw R (rpC p).toArray 62 :: F))) [(0, 2), (1, 2), (2, 1), (3, 2), (4, 1), (6, 2), (7, 1), (8, 2), (9, 1), (10, 2), (11, 2), (12, 1), (13, 2), (14, 2), (15, 1), (16, 2), (17, 2), (18, 1), (19, 2), (5, 0), (20, 0), (21, 2), (22, 0)] rfl (by kernel_rfl) (by kernel_rfl) ((H.drew)) ?_
 intro ops hOps hS
 replace H := H.drew
 iterate 2 refine fm hOps ?_
 refine tm hOps hS (fun w hw => at_raw hw 0 rfl (v := .string (sB (beN 4 p.epoch))) rfl) ?_
 refine fm hOps ?_
 refine tm hOps hS (fun w hw => at_raw hw 0 rfl (v := .string (sB p.nonce)) rfl) ?_
 refine fm hOps ?_
 refine tm hOps hS (fun w hw => at_raw hw 0 rfl (v := .string (sB (beN 2 p.who))) rfl) ?_
 refine fm hOps ?_
 refine tm hOps hS (fun w hw => at_raw hw 0 rfl (v := .string (sB (beN 4 p.epoch))) rfl) ?_
 refine wpM_free hOps rfl (fun _ _ _ h => h) (yl rfl (fun w _ => exec_sadd (u := beN 2 p.who) (v := beN 4 p.epoch) rfl rfl rfl (by rw [beN_length, beN_length]; omega) w)) ?_
 simp only [nrm]
 refine fm hOps ?_
 refine tm hOps hS (fun w hw => at_raw hw 0 rfl (v := .string (sB p.nonce)) rfl) ?_
 refine wpM_free hOps rfl (fun _ _ _ h => h) (yl rfl (fun w _ => exec_sadd (u := beN 2 p.who ++ beN 4 p.epoch) (v := p.nonce) rfl rfl rfl (by rw [l3.out, PO.out.nonce]; omega) w)) ?_
 simp only [nrm]
 refine fm hOps ?_
 refine tm hOps hS (fun w hw => at_raw hw 0 rfl (v := .string (sB p.head)) rfl) ?_
 refine wpM_free hOps rfl (fun _ _ _ h => h) (yl rfl (fun w _ => exec_sadd (u := beN 2 p.who ++ beN 4 p.epoch ++ p.nonce) (v := p.head) rfl rfl rfl (by rw [l2.out, PO.out.head]; omega) w)) ?_
 simp only [nrm]
 refine fm hOps ?_
 refine tm hOps hS (fun w hw => at_raw hw 0 rfl (v := .string (sB p.body)) rfl) ?_
 refine wpM_free hOps rfl (fun _ _ _ h => h) (yl rfl (fun w _ => exec_sadd (u := beN 2 p.who ++ beN 4 p.epoch ++ p.nonce ++ p.head) (v := p.body) rfl rfl rfl (by rw [l1.out, PO.out.body]; omega) w)) ?_
 simp only [nrm]
 refine wpM_next hOps rfl rfl ?_
 intro K hK
 refine wp_call _ _ _ rfl Tryz.func101 rfl (by kernel_rfl) ?_
 simp only [List.map_toArray, List.map_cons, List.map_nil, Act.eval, Array.getD_eq_getD_getElem?, List.getElem?_toArray, List.getElem?_cons_zero, List.getElem?_cons_succ, Option.getD_some]
 refine (RD11_c (label := [109, 97, 99]) (e := beN 4 p.epoch) (n := p.nonce) H HK.out (by simp) (by rw [beN_length]; omega) (by rw [PO.out.nonce]; omega)).mono ?_; rintro e w' ⟨rfl, H⟩
 rw [← HD.out]
 have hS := (H)
 refine hK _ _ (.inr hS) ?_
 clear hK K
 simp only [nrm]
 refine wpM_next hOps rfl rfl ?_
 intro K hK
 refine wp_call _ _ _ rfl Tryz.func110 rfl (by kernel_rfl) ?_
 simp only [List.map_toArray, List.map_cons, List.map_nil, Act.eval, Array.getD_eq_getD_getElem?, List.getElem?_toArray, List.getElem?_cons_zero, List.getElem?_cons_succ, Option.getD_some]
 refine (RHMAC_c H hDl.out hl.out).mono ?_; rintro e w' ⟨rfl, H⟩
 have hS := (H)
 refine hK _ _ (.inr hS) ?_
 clear hK K
 simp only [nrm]
 refine wpM_free hOps rfl (fun _ _ _ h => h) (yl_slice rfl 9 (.tmp 25) none (some (.const (.int .i64 16))) none rfl (v := .string (sB ((hmacOf D (beN 2 p.who ++ beN 4 p.epoch ++ p.nonce ++ p.head ++ p.body)).take 16))) (fun w => run_stake (l := hmacOf D (beN 2 p.who ++ beN 4 p.epoch ++ p.nonce ++ p.head ++ p.body)) (J := 16) under_strT (j := 16) rfl (by rw [hmacOf_length]; omega) w)) ?_
 simp only [nrm]
 refine wpM_next hOps rfl rfl ?_
 intro K hK
 refine wp_run rfl ?_
 have hS := (hS)
 refine hK _ _ (.inr hS) ?_
 clear hK K
 simp only [nrm]
 refine wpM_end ?_
 clear hOps hS ops
 go_wp2_with fail
 go_ret
 exact ⟨rfl, H.tail⟩
end Go.Proofs.YtmflbekabkainaaGreatDoor
