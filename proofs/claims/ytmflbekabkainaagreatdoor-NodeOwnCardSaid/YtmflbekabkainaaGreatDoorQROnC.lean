import Derived.Test.YtmflbekabkainaaGreatDoorQROnB
import Derived.Test.YtmflbekabkainaaGreatDoorQHgD
set_option linter.unusedVariables false
set_option linter.unusedSimpArgs false
namespace Go.Proofs.YtmflbekabkainaaGreatDoor
open Go.RowKit Go.Hg
theorem see_sub {α : Type} {P : Program} {e : TypeId} {size by_ : Nat} {c : α → List Value} {w0 : World} {F : List SP} {b off m cap i j n : Nat} {xs : List α} {x : α} {bs : List (BitVec 8)} (E : El P e size by_ c) (hv : SeeL size c w0 F (.slice (some ⟨b, off, none⟩) m cap) xs) (hx : xs[i]? = some x)
    (hc : ((c x).drop j).take n = v8 bs) (hn : bs.length = n) : SeeB w0 F (.slice (some ⟨b, off + i * size + j, none⟩) n n) bs := by
 subst hn
 refine ⟨_, bs.length, b, _, rfl, Nat.le_refl _, fun _ => rfl, ⟨(fun e => by cases e), (fun x e => by cases e; exact .inr rfl)⟩, fun w' H k u hk => ?_⟩
 have hr := hv.elem E H hx
 rw [cl_c8, ← hc, List.getElem?_take] at hk
 split at hk
 · rw [List.getElem?_drop] at hk
   have := hr (j + k) u hk
   rwa [← Nat.add_assoc] at this
 · cases hk
def rhC (h : HopO) : List Value := [.int .u16 (h.1.addr : Int), .int .u16 (h.1.who : Int), .string (sB h.1.key), .int .u32 (h.1.epoch : Int)] ++ (v8 h.1.nonce ++ [.int .u64 (h.1.lo : Int), .int .u64 (h.1.hi : Int), .int .u32 (h.1.delay : Int)])
theorem rhC_length (h : HopO) : (rhC h).length = 23 := by simp [rhC, v8_length, h.2.nonce]
theorem rhC_one (h : HopO) : ∀ u ∈ rhC h, u.oneCell' = true := fun u hu => by
 unfold rhC at hu
 simp only [List.mem_append] at hu
 rcases hu with hu | hu | hu
 · simp at hu; rcases hu with rfl | rfl | rfl | rfl <;> rfl
 · exact v8_one _ u hu
 · simp at hu; rcases hu with rfl | rfl | rfl <;> rfl
theorem rh_post (h : HopO) (j : Nat) : (rhC h)[20 + j]? = ([.int .u64 (h.1.lo : Int), .int .u64 (h.1.hi : Int), .int .u32 (h.1.delay : Int)] : List Value)[j]? := by
 unfold rhC
 rw [← List.append_assoc, List.getElem?_append_right (by simp [v8_length, h.2.nonce])]
 congr 1
 simp [v8_length, h.2.nonce]
theorem rh_nonce (h : HopO) : ((rhC h).drop 4).take 16 = v8 h.1.nonce := part3 rfl (by rw [v8_length, h.2.nonce])
def rhz : List Value := [.int .u16 0, .int .u16 0, .string ByteArray.empty, .int .u32 0] ++ (v8 (zs 16) ++ [.int .u64 0, .int .u64 0, .int .u32 0])
theorem info_rh : (Tryz.prog.info? 122).map (fun i => (i.zero, i.size, i.bytes)) = some (some (.agg rhz.toArray), 23, 72) := by kernel_rfl
theorem size_rh : (Tryz.prog.info? 122).map (·.size) = some 23 := by kernel_rfl
theorem el_rhop : El Tryz.prog 122 23 72 rhC := ⟨⟨_, info_rh, rfl⟩, rhC_length, rhC_one⟩
theorem under_rhops : Tryz.prog.underlying 123 = some (.slice 122) := by kernel_rfl
theorem heads_len (h : HopD) : (headsOf h.keys).length = 384 := headsOf_length (keysOf_ok _ _ _)
theorem bodies_len (h : HopD) : (bodiesOf h.keys).length = 256 := bodiesOf_length (keysOf_ok _ _ _)
theorem slot_right (h : HopD) (next : Option HopD) (p : PktD) (box : Nat) : (slotOf h next p box).right = decide (h.lo ≤ h.hi) := by
 unfold SlotD.right slotOf
 cases next with
 | none => simp [SlotD.only]
 | some n => simp [SlotD.only]
theorem buildR_bad : ∀ (l : List HopD) (next : Option HopD) (p : PktD) (e : List (BitVec 8)) (box : Nat) (h : HopD), h ∈ l → h.hi < h.lo → buildR l next p e box = none
 | [], _, _, _, _, h, hm, _ => by cases hm
 | g :: l, next, p, e, box, h, hm, hlt => by
  unfold buildR
  rcases List.mem_cons.1 hm with rfl | hm
  · have : wrapOf h p (slotOf h next p box) e = none := by
      unfold wrapOf
      rw [slot_right, if_neg (by simp; omega)]
    rw [this]
    rfl
  · cases hw : wrapOf g p (slotOf g next p box) e with
    | none => rfl
    | some q => exact buildR_bad l (some g) q [] box h hm hlt
theorem buildOf_bad {hops : List HopD} {box : Nat} {body : List (BitVec 8)} {h : HopD} (hm : h ∈ hops) (hlt : h.hi < h.lo) : buildOf hops box body = none := by
 unfold buildOf
 split
 · rfl
 · exact buildR_bad _ _ _ _ _ h (List.mem_reverse.2 hm) hlt
set_option maxRecDepth 10000 in
set_option maxHeartbeats 2000000 in
theorem RBehind_c {w0 w : World} {F : List SP} {v : Value} {hops : List HopO} {n : Nat} (H : At w0 F w) (hv : SeeL 23 rhC w0 F v hops) (hn : n ≤ hops.length) (h5 : hops.length ≤ 5) :
    Calls Tryz.prog 81 #[v, .int .i64 (n : Int)] w fun r w' => r = .returned (.string (sB (fillN hops n))) ∧ At w0 F w' := by
 obtain ⟨a, cap, rfl, hcap, hsome⟩ := hv.slice
 obtain ⟨m, hm⟩ : ∃ m, m = hops.length := ⟨_, rfl⟩
 rw [← hm] at hv hsome hn ⊢
 have HV := Lib.hid hv
 have HS := Lib.hid hsome
 have HM := Lib.hid hm
 have HN := Lib.hid hn
 have H5 := Lib.hid (show m ≤ 5 by omega)
 clear hv hsome hm hcap hn h5
 go_enter Tryz.func81, Tryz.ntmps81
 go_wp2_with fail
 go_loopw [5, 6] (fun s i wr => ∃ c : Nat, c ≤ n ∧ s = .string (sB (fillN hops c)) ∧ i = .int .i64 (c : Int) ∧ At w0 F wr) (fun _ i _ => n - (intOf i).toNat)
 case atStart => exact ⟨0, by omega, rfl, rfl, H⟩
 case round =>
  clear H
  obtain ⟨c, hc, rfl, rfl, H⟩ := hrel
  by_cases hcn : c < n
  · have hlt : (c : Int) < (n : Int) := by omega
    have hcm : (c : Int) < (m : Int) := by have := HN.out; omega
    have e1 : IntKind.i64.wrap ((c : Int) + 1) = ((c + 1 : Nat) : Int) := by rw [IntKind.wrap_i64]; have := HN.out; have := H5.out; omega
    obtain ⟨g, off, rfl⟩ := HS.out (by omega)
    obtain ⟨h, hx⟩ : ∃ h, hops[c]? = some h := ⟨_, List.getElem?_eq_getElem (by have := HM.out; omega)⟩
    have HX := Lib.hid hx
    obtain ⟨Z, hZ⟩ : ∃ Z, Z = fillN hops c := ⟨_, rfl⟩
    obtain ⟨l, hl⟩ : ∃ l, l = 64 * c := ⟨_, rfl⟩
    have hZl := Lib.hid (show Z.length = l by rw [hZ, fillN_length (by have := HM.out; omega) (by have := HM.out; have := H5.out; omega), hl])
    have hsz : (sB Z).size = l := by rw [sB_size, hZl.out]
    obtain ⟨d, hd⟩ : ∃ d, d + 64 + l = 384 := ⟨320 - l, by have := H5.out; have := HN.out; omega⟩
    obtain ⟨d6, hd6⟩ : ∃ x, x = d + 64 := ⟨_, rfl⟩
    have s1 : (384 : Int) - (l : Int) = (d6 : Int) := by omega
    have s2 : IntKind.i64.wrap (d6 : Int) = (d6 : Int) := by rw [IntKind.wrap_i64]; omega
    have s3 : (d6 : Int) - 64 = (d : Int) := by omega
    have s4 : IntKind.i64.wrap (d : Int) = (d : Int) := by rw [IntKind.wrap_i64]; omega
    have e2 : IntKind.u64.wrap (h.1.epoch : Int) = (h.1.epoch : Int) := by rw [IntKind.wrap_u64]; have := h.2.epoch; omega
    obtain ⟨D, hD⟩ : ∃ D, D = headsOf h.1.keys := ⟨_, rfl⟩
    have HD := Lib.hid (show streamOf (deriveOf h.1.key [[104, 101, 97, 100], beN 4 h.1.epoch, h.1.nonce]) (zs 12) 384 = D by rw [hD]; rfl)
    have HDl := Lib.hid (show D.length = 384 by rw [hD]; exact heads_len _)
    have hnx := Lib.hid (show xorB (Z ++ zs 64) (D.drop d) = fillN hops (c + 1) by
     rw [hZ, hD, show d = 384 - (l + 64) by omega]
     exact fillN_succ HX.out (by rw [← hZ]; exact hZl.out.symm))
    have hnn := Lib.hid (rh_nonce h)
    have HL := Lib.hid (show l ≤ 320 by omega)
    have HDD := Lib.hid (show 64 + l = 384 - d ∧ d ≤ 384 by omega)
    rw [← hZ]
    clear hx hZ hD hl hd hd6
    go_wp2_with fail
    refine wpS_begin [] (F) (.fr 0 (.fr 1 (.fr 2 (.fr 3 (.tk 4 (.fr 5 (.fr 6 (.fr 7 (.fr 8 (.tk 9 (.fr 10 (.fr 11 (.fr 12 (.fr 13 (.fr 14 (.fr 15 (.fr 16 (.tk 17 (.fr 18 (.nx 19 .nil)))))))))))))))))))) rfl (by kernel_rfl) (by kernel_rfl) H ?_
    clear H
    intro ops hOps
    iterate 4 refine fs hOps ?_
    refine ts hOps (fun w hw => HV.out.cell (j := 2) (u := .string (sB h.1.key)) el_rhop hw HX.out rfl) ?_
    iterate 4 refine fs hOps ?_
    refine ts hOps (fun w hw => HV.out.cell (j := 3) (u := .int .u32 (h.1.epoch : Int)) el_rhop hw HX.out rfl) ?_
    refine fs hOps ?_
    refine wpS_fcall hOps (v := ?vOp3329) rfl (fun _ _ _ h => h) (GY.call rfl _ _ _ rfl Tryz.func76 rfl (by kernel_rfl) ?yOp3329) ?_
    case yOp3329 =>
     intro L w f H
     simp only [List.map_toArray, List.map_cons, List.map_nil, nrm]
     exact (RText11_c (n := h.1.epoch) (k := 4) H (by have := h.2.epoch; omega) (by omega))
    simp only [nrm]
    iterate 5 refine fs hOps ?_
    refine wpS_take hOps rfl (fun _ _ _ h => h) pk (GY.of_yields (yl rfl (fun w hw => exec_str_of (bs := h.1.nonce) (g := g) (off := off + c * 23 + 4) (n := 16) (cap := 16) rfl under_bytesT under_u8T under_strT rfl hw (see_sub el_rhop HV.out HX.out hnn.out h.2.nonce)))) ?_
    simp only [nrm]
    refine wpS_fcall hOps (v := ?vOp3345) rfl (fun _ _ _ h => h) (GY.call rfl _ _ _ rfl Tryz.func78 rfl (by kernel_rfl) ?yOp3345) ?_
    case yOp3345 =>
     intro L w f H
     simp only [List.map_toArray, List.map_cons, List.map_nil, nrm]
     exact (by have q := RHead_c (key := h.1.key) (e := beN 4 h.1.epoch) (n := h.1.nonce) H (by rw [h.2.key]; omega) (by rw [beN_length]; omega) (by rw [h.2.nonce]; omega); rw [HD.out] at q; exact q)
    simp only [nrm]
    refine wpS_next hOps rfl rfl ?_
    intro w H K hK
    refine wp_run rfl ?_
    refine hK _ _ _ (.inr (.inl (Imp.refl _))) H ?_
    clear hK K H
    try simp only [nrm]
    refine wpS_end (fun w H => ?_)
    clear hOps ops
    go_wp2_with fail
    refine wpS_begin [] (F) (.fr 0 (.fr 1 (.fr 2 (.fr 3 (.fr 4 (.fr 5 (.fr 6 (.fr 7 (.fr 8 (.fr 9 (.nx 10 .nil))))))))))) rfl (by kernel_rfl) (by kernel_rfl) H ?_
    clear H
    intro ops hOps
    refine fs hOps ?_
    refine wpS_fcall hOps (v := ?vOp3354) rfl (fun _ _ _ h => h) (GY.call rfl _ _ _ rfl Tryz.func77 rfl (by kernel_rfl) ?yOp3354) ?_
    case yOp3354 =>
     intro L w f H
     simp only [List.map_toArray, List.map_cons, List.map_nil, nrm]
     exact (RNoughts_c (n := 64) H (by omega))
    simp only [nrm]
    refine wpS_free hOps rfl (fun _ _ _ h => h) (yl rfl (fun w _ => exec_sadd (u := Z) (v := zs 64) rfl rfl rfl (by rw [hZl.out, zs_length]; have := HL.out; omega) w)) ?_
    simp only [nrm]
    iterate 5 refine fs hOps ?_
    refine wpS_free hOps rfl (fun _ _ _ h => h) (yl_slice rfl 9 (.tmp 35) (some (.tmp 39)) none none rfl (v := .string (sB (D.drop d))) (fun w => run_sfrom (P := Tryz.prog) (l := D) (i := d) (I := (d : Int)) under_strT rfl (by rw [HDl.out]; exact HDD.out.2) w)) ?_
    simp only [nrm]
    refine wpS_fcall hOps (v := ?vOp3372) rfl (fun _ _ _ h => h) (GY.call rfl _ _ _ rfl Tryz.func79 rfl (by kernel_rfl) ?yOp3372) ?_
    case yOp3372 =>
     intro L w f H
     simp only [List.map_toArray, List.map_cons, List.map_nil, nrm]
     exact (by have q := RXor_c (a := Z ++ zs 64) (b := D.drop d) H (by rw [List.length_append, hZl.out, zs_length, List.length_drop, HDl.out]; have := HDD.out.1; omega) (by rw [List.length_append, hZl.out, zs_length]; have := HL.out; omega); rw [hnx.out] at q; exact q)
    simp only [nrm]
    refine wpS_next hOps rfl rfl ?_
    intro w H K hK
    refine wp_run rfl ?_
    refine hK _ _ _ (.inr (.inl (Imp.refl _))) H ?_
    clear hK K H
    try simp only [nrm]
    refine wpS_end (fun w H => ?_)
    clear hOps ops
    go_wp2_with fail
    first
     | (refine ⟨?_, ?measure⟩; iterate 220 (try apply Exists.intro); refine ⟨?rel, rfl⟩)
     | refine ⟨?rel, ?measure⟩
    case rel => exact ⟨c + 1, by omega, rfl, rfl, H⟩
    case measure => simp [intOf]; omega
  · obtain rfl : c = n := by omega
    have hlt : ¬ (c : Int) < (c : Int) := by omega
    go_wp2_with fail
    go_ret
    exact ⟨rfl, H⟩
def rpS (body : List (BitVec 8)) : List Value := [.string ByteArray.empty, .string ByteArray.empty, .string ByteArray.empty, .string ByteArray.empty, .string ByteArray.empty, .string (sB body)]
theorem rpS_one (body : List (BitVec 8)) : ∀ u ∈ (rpS body).toArray.toList, u.oneCell' = true := by intro u hu; simp [rpS] at hu; rcases hu with rfl | rfl <;> rfl
theorem built_rpS (w : World) (b : ByteArray) : (Instr.build 62 [(5, Value.string b)].toArray).run Tryz.prog w = .ok (.agg #[.string ByteArray.empty, .string ByteArray.empty, .string ByteArray.empty, .string ByteArray.empty, .string ByteArray.empty, .string b]) w := run_build w _ _ _ (by kernel_rfl)
theorem built_rp5 (w : World) (a b c d e : ByteArray) : (Instr.build 62 [(0, Value.string a), (1, Value.string b), (2, Value.string c), (4, Value.string d), (5, Value.string e)].toArray).run Tryz.prog w = .ok (.agg #[.string a, .string b, .string c, .string ByteArray.empty, .string d, .string e]) w := run_build w _ _ _ (by kernel_rfl)
def rpB (R : Option PktD) : List Value := match R with
 | some q => rpC q
 | none => rpZ
structure RInv (hops : List HopO) (body : List (BitVec 8)) (box c : Nat) (pc : List Value) (R : Option PktD) (next : Option HopD) (p : PktD) (eb : List (BitVec 8)) : Prop where
 run : buildR ((hops.take c).map (·.1)).reverse next p eb box = R
 ok : p.ok
 fifth : pc[5]? = some (.string (sB p.body))
 one : ∀ u ∈ pc.toArray.toList, u.oneCell' = true
 size : pc.toArray.size = 6
 first : c = hops.length → next = none ∧ eb = fillOf ((hops.take (hops.length - 1)).map (·.1)) [] ∧ p.head = zs 320 ∧ pc = rpS body
 later : c < hops.length → pc = rpC p ∧ eb = [] ∧ ∃ n : HopO, hops[c]? = some n ∧ next = some n.1
theorem RInv.start {hops : List HopO} {body : List (BitVec 8)} {box : Nat} (h1 : 1 ≤ hops.length) (h5 : hops.length ≤ 5) (hb : body.length = 256) : RInv hops body box hops.length (rpS body) (buildOf (hops.map (·.1)) box body) none { PktD.zero with body := body } (fillOf ((hops.take (hops.length - 1)).map (·.1)) []) where
 run := by
  unfold buildOf
  rw [if_neg (by rw [List.length_map]; omega), List.take_length, ← List.map_dropLast, List.dropLast_eq_take]
 ok := ⟨by simp [PktD.zero], by simp [PktD.zero], zs_length _, zs_length _, zs_length _, hb⟩
 fifth := rfl
 one := rpS_one body
 size := rfl
 first := fun _ => ⟨rfl, rfl, rfl, rfl⟩
 later := fun h => absurd h (Nat.lt_irrefl _)
def outOf (h : HopD) (next : Option HopD) (p : PktD) (eb : List (BitVec 8)) (box : Nat) : PktD := ⟨h.who, h.epoch, h.nonce, zs 16, (xorB ((slotOf h next p box).bytes ++ p.head.take 256) (headsOf h.keys)).take (320 - eb.length) ++ eb, xorB p.body (bodiesOf h.keys)⟩
theorem RInv.step {hops : List HopO} {body : List (BitVec 8)} {box c : Nat} {pc : List Value} {R : Option PktD} {next : Option HopD} {p : PktD} {eb : List (BitVec 8)} {h : HopO} {q : PktD} (I : RInv hops body box (c + 1) pc R next p eb) (hx : hops[c]? = some h) (hle : h.1.lo ≤ h.1.hi)
    (hq : q = { outOf h.1 next p eb box with mac := macOf h.1.key (outOf h.1 next p eb box) }) (qo : q.ok) : RInv hops body box c (rpC q) R (some h.1) q [] where
 run := by
  have hr := I.run
  rw [take_rev hx] at hr
  rw [← hr]
  have hw : wrapOf h.1 p (slotOf h.1 next p box) eb = some q := by
   unfold wrapOf
   rw [slot_right, if_pos (by simpa using hle), hq]
   rfl
  show _ = (wrapOf h.1 p (slotOf h.1 next p box) eb).bind fun q => buildR ((hops.take c).map (·.1)).reverse (some h.1) q [] box
  rw [hw]
  rfl
 ok := qo
 fifth := rfl
 one := rpC_one q
 size := rfl
 first := fun e => by have := (List.getElem?_eq_some_iff.1 hx).1; omega
 later := fun _ => ⟨rfl, rfl, h, hx, rfl⟩
theorem set_mac1 (s : SlotD) (hn : s.nonce.length = 16) {q : Nat} (hq : q < s.mac.length) (x : BitVec 8) : s.cells.toArray.setIfInBounds (21 + q) (.int .u8 (iv x)) = ({ s with mac := s.mac.set q x } : SlotD).cells.toArray := by
 apply Array.ext'
 rw [Array.toList_setIfInBounds]
 show s.cells.set _ _ = _
 unfold SlotD.cells
 have hA : (s.pre ++ v8 s.nonce).length = 21 := by simp [SlotD.pre, v8_length, hn]
 rw [List.set_append_left _ _ (by rw [List.length_append, hA, v8_length]; omega), List.set_append_right _ _ (by omega), hA, Nat.add_sub_cancel_left, v8_set]
 rfl
theorem range_sub2 {w : World} {b off j n : Nat} {cs : List Value} {bs : List (BitVec 8)} (h : w.rangeAt b off cs) (hc : (cs.drop j).take n = v8 bs) : w.rangeAt b (off + j) (v8 bs) := fun k u hk => by
 rw [← hc, List.getElem?_take] at hk
 split at hk
 · rw [List.getElem?_drop] at hk
   have := h (j + k) u hk
   rwa [← Nat.add_assoc] at this
 · cases hk
theorem slot_ok {h : HopO} {next : Option HopD} {p : PktD} {box : Nat} (on : ∀ n, next = some n → n.ok) (po : p.ok) (hb : box < 65536) : (slotOf h.1 next p box).ok := slotOf_ok h.2 on po hb
set_option maxRecDepth 10000 in
set_option maxHeartbeats 1000000 in
theorem RBuild_few {w0 w : World} {F : List SP} {a : Option Addr} {m cap box : Nat} {body : List (BitVec 8)} (H : At w0 F w) (hm : (m : Int) < 1 ∨ 5 < (m : Int)) :
    Calls Tryz.prog 49 #[.slice a m cap, .int .u16 (box : Int), .string (sB body)] w fun r w' => r = .returned (.tuple #[.agg rpZ.toArray, .int .i64 1]) ∧ At w0 F w' := by
 rcases hm with hm | hm
 all_goals
  go_enter Tryz.func49, Tryz.ntmps49
  go_wp2_with ((first | (with_reducible refine wpList_op rfl ?_) | (refine wpList_opif (by rfl) ?_)); intro _ hK; first
   | (refine dst_is 6 rfl ?_; refine wp_alloc_sl 62 rfl rp_info H (fun O w' (H : At w0 (raw O rpZ.toArray 62 :: F) w') _ => hK _ _ ?_))
   | (refine dst_is 29 rfl ?_; refine Hg.wp_build 62 _ rfl (by rw [Array.toList_map]; rfl) (run_buildL places_rp [] rfl _) (hK _ _ ?_))
   | (refine sto_is 6 rfl ?_; refine wp_store_row_sl 62 _ _ rfl (b := O) (cells := rpZ.toArray) rfl rfl rp_size rpZ_one 0 H rfl rfl (fun w' (H : At w0 (raw O rpZ.toArray 62 :: F) w') => hK _ _ ?_)))
  exact bodyPost_ret (v := .tuple #[.agg rpZ.toArray, .int .i64 1]) (results_row_tmp rfl _ rfl (at_blk H 0 rfl) (by kernel_rfl) rp_size rfl) rfl ⟨rfl, H.tail⟩
set_option maxRecDepth 10000 in
set_option maxHeartbeats 8000000 in
theorem RBuild_main {w0 w : World} {F : List SP} {v : Value} {hops : List HopO} {box : Nat} {body : List (BitVec 8)} (H : At w0 F w) (hv : SeeL 23 rhC w0 F v hops) (hb : body.length = 256) (hbox : box < 65536) (h1 : 1 ≤ hops.length) (h5 : hops.length ≤ 5) :
    Calls Tryz.prog 49 #[v, .int .u16 (box : Int), .string (sB body)] w fun r w' => r = .returned (.tuple #[.agg (rpB (buildOf (hops.map (·.1)) box body)).toArray, .int .i64 (BldE (buildOf (hops.map (·.1)) box body))]) ∧ At w0 F w' := by
 obtain ⟨a, cap, rfl, hcap, hsome⟩ := hv.slice
 obtain ⟨m, hm⟩ : ∃ m, m = hops.length := ⟨_, rfl⟩
 obtain ⟨R, hR⟩ : ∃ R, R = buildOf (hops.map (·.1)) box body := ⟨_, rfl⟩
 have HST := Lib.hid (RInv.start (box := box) h1 h5 hb)
 rw [← hR] at HST ⊢
 rw [← hm] at hv hsome HST ⊢
 obtain ⟨g, off, rfl⟩ := hsome (by omega)
 have hm5 : ¬ (5 : Int) < (m : Int) := by omega
 have hm1 : ¬ (m : Int) < 1 := by omega
 have HV := Lib.hid hv
 have HM := Lib.hid hm
 have HR := Lib.hid hR
 have HBX := Lib.hid hbox
 have M5 := Lib.hid (show m ≤ 5 by omega)
 clear hv hcap hsome hb hbox h1 h5 hR hm
 go_enter Tryz.func49, Tryz.ntmps49
 go_wp2_with ((first | (with_reducible refine wpList_op rfl ?_) | (refine wpList_opif (by rfl) ?_)); intro _ hK; first
  | (refine dst_is 6 rfl ?_; refine wp_alloc_sl 62 rfl rp_info H (fun O w' (H : At w0 (raw O rpZ.toArray 62 :: F) w') _ => hK _ _ (Stop.go ?_))))
 refine Stop.un ?_
 go_wp2_with fail
 go_loopw [9] (fun i wr => ∃ c : Nat, c ≤ m ∧ i = .int .i64 (c : Int) ∧ (∀ (j : Nat) (h : HopO), j < c → hops[j]? = some h → h.1.lo ≤ h.1.hi) ∧ At w0 (raw O rpZ.toArray 62 :: F) wr) (fun i _ => m - (intOf i).toNat)
 case atStart => exact ⟨0, by omega, rfl, fun j h hj => absurd hj (by omega), H⟩
 case round =>
  clear H
  obtain ⟨c, hc, rfl, hall, H⟩ := hrel
  have HALL := Lib.hid hall
  by_cases hcm : c < m
  · as_aux_lemma =>
      have hlt : (c : Int) < (m : Int) := by omega
      have e1 : IntKind.i64.wrap ((c : Int) + 1) = ((c + 1 : Nat) : Int) := by rw [IntKind.wrap_i64]; have := M5.out; omega
      obtain ⟨h, hx⟩ : ∃ h, hops[c]? = some h := ⟨_, List.getElem?_eq_getElem (by have := HM.out; omega)⟩
      have HX := Lib.hid hx
      by_cases hle : h.1.lo ≤ h.1.hi
      · have hle' : ¬ (h.1.hi : Int) < (h.1.lo : Int) := by omega
        have hnx := Lib.hid (show ∀ (j : Nat) (h : HopO), j < c + 1 → hops[j]? = some h → h.1.lo ≤ h.1.hi by
         intro j h' hj hh
         by_cases hjc : j = c
         · subst hjc
           rw [HX.out] at hh
           cases hh
           exact hle
         · exact HALL.out j h' (by omega) hh)
        clear hx hle hall
        go_wp2_with fail
        refine wpS_begin [] (raw O rpZ.toArray 62 :: F) (.fr 0 (.fr 1 (.fr 2 (.fr 3 (.tk 4 (.fr 5 (.fr 6 (.fr 7 (.fr 8 (.tk 9 (.fr 10 .nil))))))))))) rfl (by kernel_rfl) (by kernel_rfl) H ?_
        clear H
        intro ops hOps
        iterate 4 refine fs hOps ?_
        refine ts hOps (fun w hw => (HV.out.more _).cell (j := 20) (u := .int .u64 (h.1.lo : Int)) el_rhop hw HX.out (rh_post h 0)) ?_
        iterate 4 refine fs hOps ?_
        refine ts hOps (fun w hw => (HV.out.more _).cell (j := 21) (u := .int .u64 (h.1.hi : Int)) el_rhop hw HX.out (rh_post h 1)) ?_
        refine fs hOps ?_
        refine wpS_end (fun w H => ?_)
        clear hOps ops
        go_wp2_with fail
        first
         | (refine ⟨?_, ?measure⟩; iterate 220 (try apply Exists.intro); refine ⟨?rel, rfl⟩)
         | refine ⟨?rel, ?measure⟩
        case rel => exact ⟨c + 1, by omega, rfl, hnx.out, H⟩
        case measure => simp [intOf]; omega
      · have hle' : (h.1.hi : Int) < (h.1.lo : Int) := by omega
        have hbad := Lib.hid (show R = none by rw [HR.out]; exact buildOf_bad (List.mem_map.2 ⟨h, List.mem_of_getElem? HX.out, rfl⟩) (by omega))
        clear hx hle hall
        go_wp2_with fail
        refine wpS_begin [] (raw O rpZ.toArray 62 :: F) (.fr 0 (.fr 1 (.fr 2 (.fr 3 (.tk 4 (.fr 5 (.fr 6 (.fr 7 (.fr 8 (.tk 9 (.fr 10 .nil))))))))))) rfl (by kernel_rfl) (by kernel_rfl) H ?_
        clear H
        intro ops hOps
        iterate 4 refine fs hOps ?_
        refine ts hOps (fun w hw => (HV.out.more _).cell (j := 20) (u := .int .u64 (h.1.lo : Int)) el_rhop hw HX.out (rh_post h 0)) ?_
        iterate 4 refine fs hOps ?_
        refine ts hOps (fun w hw => (HV.out.more _).cell (j := 21) (u := .int .u64 (h.1.hi : Int)) el_rhop hw HX.out (rh_post h 1)) ?_
        refine fs hOps ?_
        refine wpS_end (fun w H => ?_)
        clear hOps ops
        go_wp2_with ((with_reducible refine wpList_op rfl ?_); intro _ hK; first
         | (refine dst_is 46 rfl ?_; refine Hg.wp_build 62 _ rfl (by rw [Array.toList_map]; rfl) (run_buildL places_rp [] rfl _) (hK _ _ ?_))
         | (refine sto_is 6 rfl ?_; refine wp_store_row_sl 62 _ _ rfl (b := O) (cells := rpZ.toArray) rfl rfl rp_size rpZ_one 0 H rfl rfl (fun w' (H : At w0 (raw O rpZ.toArray 62 :: F) w') => hK _ _ ?_)))
        exact bodyPost_ret (v := .tuple #[.agg rpZ.toArray, .int .i64 1]) (results_row_tmp rfl _ rfl (at_blk H 0 rfl) (by kernel_rfl) rp_size rfl) rfl ⟨by rw [hbad.out]; rfl, H.tail⟩
  · as_aux_lemma =>
      obtain rfl : c = m := by omega
      have hlt : ¬ (c : Int) < (c : Int) := by omega
      obtain ⟨k1, hk1⟩ : ∃ k1, k1 + 1 = c := ⟨c - 1, by omega⟩
      have q1 : (c : Int) - 1 = (k1 : Int) := by omega
      have q2 : IntKind.i64.wrap (k1 : Int) = (k1 : Int) := by rw [IntKind.wrap_i64]; have := M5.out; omega
      have K1 := Lib.hid hk1
      clear hall hk1
      go_wp2_with ((with_reducible refine wpList_op rfl ?_); intro _ hK; first
       | (refine dst_is 48 rfl ?_; refine Hg.wp_build 62 _ rfl (by rw [Array.toList_map]; rfl) (v := .agg (rpS body).toArray) (built_rpS _ _) (hK _ _ ?_))
       | (refine dst_is 10 rfl ?_; refine wp_alloc_sl 62 rfl rp_info H (fun P w' (H : At w0 (raw P rpZ.toArray 62 :: raw O rpZ.toArray 62 :: F) w') _ => hK _ _ ?_))
       | (refine sto_is 10 rfl ?_; refine wp_store_row_sl 62 _ _ rfl (b := P) (cells := (rpS body).toArray) rfl rfl rp_size (rpS_one body) 0 H rfl rfl (fun w' (H : At w0 (raw P (rpS body).toArray 62 :: raw O rpZ.toArray 62 :: F) w') => hK _ _ (Stop.go ?_))))
      refine Stop.un ?_
      go_wp2_with fail
      go_loopw [11] (fun i wr => ∃ (d : Nat) (z : Int) (pc : List Value) (next : Option HopD) (p : PktD) (eb : List (BitVec 8)), d ≤ c ∧ z = (d : Int) - 1 ∧ i = .int .i64 z ∧ RInv hops body box d pc R next p eb ∧ At w0 (raw P pc.toArray 62 :: raw O rpZ.toArray 62 :: F) wr) (fun i _ => (intOf i + 1).toNat)
      case atStart => exact ⟨c, k1, rpS body, _, _, _, Nat.le_refl _, q1.symm, rfl, HST.out, H⟩
      case round =>
       clear H
       obtain ⟨d, z, pc, next, p, eb, hd, hz, rfl, hI, H⟩ := hrel
       have I := Lib.hid hI
       cases d with
       | zero =>
        as_aux_lemma =>
         obtain rfl : z = -1 := by omega
         have hfin := Lib.hid (show R = some p ∧ pc = rpC p by
          refine ⟨I.out.run.symm, (I.out.later ?_).1⟩
          have := HM.out
          have := K1.out
          omega)
         rw [hfin.out.2] at H
         clear hI hz
         go_wp2_with ((with_reducible refine wpList_op rfl ?_); intro _ hK; first
          | (refine dst_is 170 rfl ?_; refine wp_mid 62 _ rfl rfl (rpC p) (by kernel_rfl) rp_size (at_blk H 0 rfl) (hK _ _ ?_))
          | (refine sto_is 6 rfl ?_; refine wp_store_row_sl 62 _ _ rfl (b := O) (cells := (rpC p).toArray) rfl rfl rp_size (rpC_one p) 1 H rfl rfl (fun w' (H : At w0 (raw P (rpC p).toArray 62 :: raw O (rpC p).toArray 62 :: F) w') => hK _ _ ?_)))
         exact bodyPost_ret (v := .tuple #[.agg (rpC p).toArray, .int .i64 0]) (results_row_tmp rfl _ rfl (at_blk H 1 rfl) (by kernel_rfl) rp_size rfl) rfl ⟨by rw [hfin.out.1]; rfl, H.maskR [false, false]⟩
       | succ k =>
        as_aux_lemma =>
         obtain rfl : z = (k : Int) := by omega
         have hk0 : (0 : Int) ≤ (k : Int) := by omega
         have hkc : (k : Int) < (c : Int) := by omega
         have e2 : IntKind.i64.wrap ((k : Int) - 1) = (k : Int) - 1 := by rw [IntKind.wrap_i64]; have := M5.out; omega
         obtain ⟨h, hx⟩ : ∃ h, hops[k]? = some h := ⟨_, List.getElem?_eq_getElem (by have := HM.out; omega)⟩
         have HX := Lib.hid hx
         have HLE := Lib.hid (HALL.out k h (by omega) hx)
         have HK := Lib.hid (show h.1.key.length ≤ 64 by rw [h.2.key]; omega)
         have d0 := Lib.hid (show (rhC h)[0]? = some (.int .u16 (h.1.addr : Int)) from rfl)
         have d1 := Lib.hid (show (rhC h)[1]? = some (.int .u16 (h.1.who : Int)) from rfl)
         have d2 := Lib.hid (show (rhC h)[2]? = some (.string (sB h.1.key)) from rfl)
         have d3 := Lib.hid (show (rhC h)[3]? = some (.int .u32 (h.1.epoch : Int)) from rfl)
         have d4 := Lib.hid (rh_nonce h)
         have d20 := Lib.hid (show (rhC h)[20]? = some (.int .u64 (h.1.lo : Int)) from rh_post h 0)
         have d21 := Lib.hid (show (rhC h)[21]? = some (.int .u64 (h.1.hi : Int)) from rh_post h 1)
         have d22 := Lib.hid (show (rhC h)[22]? = some (.int .u32 (h.1.delay : Int)) from rh_post h 2)
         have dl := Lib.hid (rhC_length h)
         have ee : IntKind.u64.wrap (h.1.epoch : Int) = (h.1.epoch : Int) := by rw [IntKind.wrap_u64]; have := h.2.epoch; omega
         have ew : IntKind.u64.wrap (h.1.who : Int) = (h.1.who : Int) := by rw [IntKind.wrap_u64]; have := h.2.who; omega
         obtain ⟨Z, hZ⟩ : ∃ Z, Z = headsOf h.1.keys := ⟨_, rfl⟩
         have EZ := Lib.hid hZ
         have HZ := Lib.hid (show streamOf (deriveOf h.1.key [[104, 101, 97, 100], beN 4 h.1.epoch, h.1.nonce]) (zs 12) 384 = Z by rw [hZ]; rfl)
         have HZl := Lib.hid (show Z.length = 384 by rw [hZ]; exact heads_len _)
         obtain ⟨Y, hY⟩ : ∃ Y, Y = bodiesOf h.1.keys := ⟨_, rfl⟩
         have EY := Lib.hid hY
         have HY := Lib.hid (show streamOf (deriveOf h.1.key [[98, 111, 100, 121], beN 4 h.1.epoch, h.1.nonce]) (zs 12) 256 = Y by rw [hY]; rfl)
         have HYl := Lib.hid (show Y.length = 256 by rw [hY]; exact bodies_len _)
         obtain ⟨s, hs⟩ : ∃ s, s = slotOf h.1 next p box := ⟨_, rfl⟩
         have HS := Lib.hid hs
         have PO := Lib.hid I.out.ok
         have KC := Lib.hid hd
         have HNX := Lib.hid (show ∀ n, next = some n → n.ok by
          intro n hn
          by_cases hf : k + 1 = hops.length
          · rw [(I.out.first hf).1] at hn; cases hn
          · obtain ⟨_, _, n', _, hn'⟩ := I.out.later (by have := HM.out; omega)
            rw [hn'] at hn
            cases hn
            exact n'.2)
         have SO := Lib.hid (show s.ok by rw [hs]; exact slot_ok HNX.out PO.out HBX.out)
         have hsl := Lib.hid (SlotD.cells_length SO.out.nonce SO.out.mac)
         have hp4 := Lib.hid (show ∃ X, pc[4]? = some (.string (sB X)) ∧ (k + 1 < hops.length → X = p.head) by
          by_cases hf : k + 1 = hops.length
          · exact ⟨[], by rw [(I.out.first hf).2.2.2]; rfl, fun h => by omega⟩
          · exact ⟨p.head, by rw [(I.out.later (by have := HM.out; omega)).1]; rfl, fun _ => rfl⟩)
         obtain ⟨X, hp4, hX⟩ := hp4.out
         have HP4 := Lib.hid hp4
         have HXH := Lib.hid hX
         have hp5 := Lib.hid I.out.fifth
         have hpl := Lib.hid I.out.size
         obtain ⟨S0, hS0⟩ : ∃ S0 : SlotD, S0 = ⟨false, 0, 0, 0, 0, zs 16, zs 16, h.1.lo, h.1.hi, h.1.delay⟩ := ⟨_, rfl⟩
         have HBL := Lib.hid (run_buildL places_slot [(7, .int .u64 (h.1.lo : Int)), (8, .int .u64 (h.1.hi : Int)), (9, .int .u32 (h.1.delay : Int))] (out := S0.cells) (by rw [hS0]; rfl))
         have hS0l := Lib.hid (show S0.cells.length = 40 by rw [hS0]; exact SlotD.cells_length (zs_length _) (zs_length _))
         have HS0 := Lib.hid hS0
         clear hx hI hd hz hZ hY hs hp4 hX hS0
         go_wp2_with ((with_reducible refine wpList_op rfl ?_); intro _ hK; first
          | (refine dst_is 58 rfl ?_; refine wp_mid 122 _ rfl (b := g) (off := off + k * 23) rfl (rhC h) (by kernel_rfl) (by rw [dl.out]; exact size_rh) (((HV.out.more _).more _).elem el_rhop H HX.out) (hK _ _ ?_))
          | (refine dst_is 12 rfl ?_; refine wp_alloc_sl 122 rfl info_rh H (fun D w' (H : At w0 (raw D rhz.toArray 122 :: raw P pc.toArray 62 :: raw O rpZ.toArray 62 :: F) w') _ => hK _ _ ?_))
          | (refine sto_is 12 rfl ?_; refine wp_store_row_sl 122 _ _ rfl (b := D) (cells := (rhC h).toArray) rfl rfl (by rw [List.size_toArray, dl.out]; exact size_rh) (by simpa using rhC_one h) 0 H rfl (by rw [List.size_toArray, List.size_toArray, dl.out]; rfl) (fun w' (H : At w0 (raw D (rhC h).toArray 122 :: raw P pc.toArray 62 :: raw O rpZ.toArray 62 :: F) w') => hK _ _ ?_))
          | (refine dst_is 60 rfl ?_; refine wp_get 36 _ rfl rfl (by kernel_rfl) (at_raw H 0 rfl d3.out) (hK _ _ (Stop.go ?_))))
         refine Stop.un ?_
         go_wp2_with fail
         refine (RText11_c (n := h.1.epoch) (k := 4) H (by have := h.2.epoch; omega) (by omega)).mono ?_; rintro e w' ⟨rfl, H⟩
         go_wp2_with ((with_reducible refine wpList_op rfl ?_); intro _ hK; first
          | (refine dst_is 65 rfl ?_; refine wp_run (exec_str_of (bs := h.1.nonce) rfl under_bytesT under_u8T under_strT rfl H (see_part 0 rfl h.2.nonce.symm (Nat.le_refl _) d4.out)) (hK _ _ ?_))
          | (refine dst_is 67 rfl ?_; refine wp_get 22 _ rfl rfl (by kernel_rfl) (at_raw H 0 rfl d20.out) (hK _ _ ?_))
          | (refine dst_is 69 rfl ?_; refine wp_get 22 _ rfl rfl (by kernel_rfl) (at_raw H 0 rfl d21.out) (hK _ _ ?_))
          | (refine dst_is 71 rfl ?_; refine wp_get 36 _ rfl rfl (by kernel_rfl) (at_raw H 0 rfl d22.out) (hK _ _ ?_))
          | (refine dst_is 72 rfl ?_; refine Hg.wp_build 60 _ rfl (by rw [Array.toList_map]; rfl) (HBL.out _) (hK _ _ ?_))
          | (refine dst_is 15 rfl ?_; refine wp_alloc_sl 60 rfl info_slot H (fun SL w' (H : At w0 (raw SL SlotD.zero.cells.toArray 60 :: raw D (rhC h).toArray 122 :: raw P pc.toArray 62 :: raw O rpZ.toArray 62 :: F) w') _ => hK _ _ ?_))
          | (refine sto_is 15 rfl ?_; refine wp_store_row_sl 60 _ _ rfl (b := SL) (cells := S0.cells.toArray) rfl rfl (by rw [List.size_toArray, hS0l.out]; exact size_slot) (by simpa using SlotD.cells_one) 0 H rfl (by rw [List.size_toArray, List.size_toArray, hS0l.out]; rfl) (fun w' (H : At w0 (raw SL S0.cells.toArray 60 :: raw D (rhC h).toArray 122 :: raw P pc.toArray 62 :: raw O rpZ.toArray 62 :: F) w') => hK _ _ ?_))
          | (refine dst_is 74 rfl ?_; refine wp_get 9 _ rfl rfl (by kernel_rfl) (at_raw H 2 rfl HP4.out) (hK _ _ (Stop.go ?_))))
         refine Stop.un ?_
         go_upto_if 78 with fail
         go_cut [16] from 55 to 122 (fun v wr => ∃ X2, v = .string (sB X2) ∧ X2.take 256 = p.head.take 256 ∧ 256 ≤ X2.length ∧ At w0 (raw SL s.cells.toArray 60 :: raw D (rhC h).toArray 122 :: raw P pc.toArray 62 :: raw O rpZ.toArray 62 :: F) wr)
         case first =>
          by_cases hf : k = k1
          · as_aux_lemma =>
              subst hf
              have hfm := Lib.hid (show k + 1 = hops.length by rw [K1.out, HM.out])
              have hs1 := Lib.hid (show ({ ({ S0 with last := true } : SlotD) with box := box } : SlotD) = s by
               rw [HS.out, (I.out.first hfm.out).1, HS0.out]; rfl)
              have hph := Lib.hid (show (zs 256).take 256 = p.head.take 256 by rw [(I.out.first hfm.out).2.2.1]; rfl)
              have hS1l := Lib.hid (show ({ S0 with last := true } : SlotD).cells.length = 40 by rw [HS0.out]; exact SlotD.cells_length (zs_length _) (zs_length _))
              rw [show ((k : Int) == (k : Int)) = true by simp]
              go_wp2_with ((with_reducible refine wpList_op rfl ?_); intro _ hK; first
               | (refine sto_is 79 rfl ?_; refine wp_store_sl 4 _ _ rfl (b := SL) (off := 0) (v := .bool true) rfl rfl (by kernel_rfl) rfl 0 H rfl (by rw [List.size_toArray, hS0l.out]; omega) (fun w' H => ?_); rw [SlotD.set_last] at H; replace H : At w0 (raw SL ({ S0 with last := true } : SlotD).cells.toArray 60 :: raw D (rhC h).toArray 122 :: raw P pc.toArray 62 :: raw O rpZ.toArray 62 :: F) w' := H; refine hK _ _ ?_)
               | (refine sto_is 81 rfl ?_; refine wp_store_sl 55 _ _ rfl (b := SL) (off := 2) (v := .int .u16 (box : Int)) rfl rfl (by kernel_rfl) rfl 0 H rfl (by rw [List.size_toArray, hS1l.out]; omega) (fun w' H => ?_); rw [SlotD.set_box, hs1.out] at H; replace H : At w0 (raw SL s.cells.toArray 60 :: raw D (rhC h).toArray 122 :: raw P pc.toArray 62 :: raw O rpZ.toArray 62 :: F) w' := H; refine hK _ _ (Stop.go ?_)))
              refine Stop.un ?_
              go_wp2_with fail
              refine (RNoughts_c (n := 256) H (by omega)).mono ?_; rintro e w' ⟨rfl, H⟩
              go_wp2_with fail
              go_meet
              case rel => exact ⟨zs 256, rfl, hph.out, by rw [zs_length]; omega, H⟩
          · as_aux_lemma =>
              have hfm := Lib.hid (show k + 1 < hops.length by have := HM.out; have := K1.out; have := KC.out; omega)
              have hpc := Lib.hid (I.out.later hfm.out).1
              obtain ⟨_, _, n', hx', hnext⟩ := I.out.later hfm.out
              have HX' := Lib.hid hx'
              obtain ⟨k2, hk2⟩ : ∃ x, x = k + 1 := ⟨_, rfl⟩
              rw [← hk2] at HX'
              have f1 : (k : Int) + 1 = (k2 : Int) := by omega
              have f2 : IntKind.i64.wrap (k2 : Int) = (k2 : Int) := by rw [IntKind.wrap_i64]; have := M5.out; have := KC.out; omega
              have f3 : (k2 : Int) < (c : Int) := by have := hfm.out; have := HM.out; omega
              rw [show ((k : Int) == (k1 : Int)) = false by simp; omega]
              have hXp := Lib.hid (HXH.out hfm.out)
              have hn4 := Lib.hid (rh_nonce n')
              have hcc := Lib.hid hpc.out
              obtain ⟨T, hT⟩ : ∃ T : Nat → SlotD, T = fun q => ⟨false, n'.1.addr, 0, n'.1.who, n'.1.epoch, n'.1.nonce, over p.mac (zs 16) q, h.1.lo, h.1.hi, h.1.delay⟩ := ⟨_, rfl⟩
              have hT16 := Lib.hid (show T 16 = s by
               rw [hT, HS.out, hnext]
               show SlotD.mk _ _ _ _ _ _ (over p.mac (zs 16) 16) _ _ _ = _
               rw [over_full (by rw [PO.out.mac, zs_length]) (by rw [zs_length])]
               rfl)
              have hTs := Lib.hid (show ∀ q, q < 16 → ({ T q with mac := (T q).mac.set q (gb p.mac q) } : SlotD) = T (q + 1) by
               intro q hq
               rw [hT]
               show SlotD.mk _ _ _ _ _ _ ((over p.mac (zs 16) q).set q (gb p.mac q)) _ _ _ = _
               rw [over_set (by rw [PO.out.mac, zs_length]) (by rw [zs_length]; exact hq)])
              have hTl := Lib.hid (show ∀ q, (T q).nonce.length = 16 ∧ (T q).mac.length = 16 by
               intro q
               rw [hT]
               exact ⟨n'.2.nonce, by show (over p.mac (zs 16) q).length = 16; rw [over_length (by rw [PO.out.mac, zs_length]), zs_length]⟩)
              obtain ⟨S1, hS1⟩ : ∃ S1 : SlotD, S1 = { S0 with next := n'.1.addr } := ⟨_, rfl⟩
              obtain ⟨S2, hS2⟩ : ∃ S1' : SlotD, S1' = { S1 with who := n'.1.who } := ⟨_, rfl⟩
              obtain ⟨S3, hS3⟩ : ∃ S1' : SlotD, S1' = { S2 with epoch := n'.1.epoch } := ⟨_, rfl⟩
              have l1 := Lib.hid (show S1.cells.length = 40 by rw [hS1, HS0.out]; exact SlotD.cells_length (zs_length _) (zs_length _))
              have l2 := Lib.hid (show S2.cells.length = 40 by rw [hS2, hS1, HS0.out]; exact SlotD.cells_length (zs_length _) (zs_length _))
              have l3 := Lib.hid (show S3.cells.length = 40 by rw [hS3, hS2, hS1, HS0.out]; exact SlotD.cells_length (zs_length _) (zs_length _))
              have p3 := Lib.hid (show S3.cells.take 5 ++ v8 n'.1.nonce ++ S3.cells.drop (5 + (v8 n'.1.nonce).length) = (T 0).cells by
               rw [SlotD.put_nonce S3 (by rw [hS3, hS2, hS1, HS0.out]; exact zs_length _) _ n'.2.nonce, hT, hS3, hS2, hS1, HS0.out]
               show _ = (SlotD.mk _ _ _ _ _ _ (over p.mac (zs 16) 0) _ _ _).cells
               rw [over_zero])
              have E1 := Lib.hid hS1
              have E2 := Lib.hid hS2
              have E3 := Lib.hid hS3
              have hcell0 := Lib.hid (fun w (H : At w0 F w) => (show w.cell? ⟨g, off + k2 * 23, none⟩ = some (.int .u16 (n'.1.addr : Int)) by simpa using HV.out.cell (j := 0) (u := .int .u16 (n'.1.addr : Int)) el_rhop H HX'.out rfl))
              clear hx' hnext hS1 hS2 hS3 hT hk2 hf
              go_wp2_with ((with_reducible refine wpList_op rfl ?_); intro _ hK; first
               | (refine dst_is 88 rfl ?_; refine wp_get 28 _ rfl rfl (by kernel_rfl) (hcell0.out _ H.tail.tail.tail.tail) (hK _ _ ?_))
               | (refine sto_is 89 rfl ?_; refine wp_store_sl 28 _ _ rfl (b := SL) (off := 1) (v := .int .u16 (n'.1.addr : Int)) rfl rfl (by kernel_rfl) rfl 0 H rfl (by rw [List.size_toArray, hS0l.out]; omega) (fun w' H => ?_); rw [SlotD.set_next, ← E1.out] at H; replace H : At w0 (raw SL S1.cells.toArray 60 :: raw D (rhC h).toArray 122 :: raw P pc.toArray 62 :: raw O rpZ.toArray 62 :: F) w' := H; refine hK _ _ ?_)
               | (refine dst_is 95 rfl ?_; refine wp_get 45 _ rfl rfl (by kernel_rfl) (HV.out.cell (j := 1) (u := .int .u16 (n'.1.who : Int)) el_rhop H.tail.tail.tail.tail HX'.out rfl) (hK _ _ ?_))
               | (refine sto_is 96 rfl ?_; refine wp_store_sl 45 _ _ rfl (b := SL) (off := 3) (v := .int .u16 (n'.1.who : Int)) rfl rfl (by kernel_rfl) rfl 0 H rfl (by rw [List.size_toArray, l1.out]; omega) (fun w' H => ?_); rw [SlotD.set_who, ← E2.out] at H; replace H : At w0 (raw SL S2.cells.toArray 60 :: raw D (rhC h).toArray 122 :: raw P pc.toArray 62 :: raw O rpZ.toArray 62 :: F) w' := H; refine hK _ _ ?_)
               | (refine dst_is 102 rfl ?_; refine wp_get 36 _ rfl rfl (by kernel_rfl) (HV.out.cell (j := 3) (u := .int .u32 (n'.1.epoch : Int)) el_rhop H.tail.tail.tail.tail HX'.out rfl) (hK _ _ ?_))
               | (refine sto_is 103 rfl ?_; refine wp_store_sl 36 _ _ rfl (b := SL) (off := 4) (v := .int .u32 (n'.1.epoch : Int)) rfl rfl (by kernel_rfl) rfl 0 H rfl (by rw [List.size_toArray, l2.out]; omega) (fun w' H => ?_); rw [SlotD.set_epoch, ← E3.out] at H; replace H : At w0 (raw SL S3.cells.toArray 60 :: raw D (rhC h).toArray 122 :: raw P pc.toArray 62 :: raw O rpZ.toArray 62 :: F) w' := H; refine hK _ _ ?_)
               | (refine dst_is 109 rfl ?_; refine wp_mid 57 _ rfl (b := g) (off := off + k2 * 23 + 4) rfl (v8 n'.1.nonce) (by kernel_rfl) (by rw [v8_length, n'.2.nonce]; exact size_nonce) (range_sub2 (HV.out.elem el_rhop H.tail.tail.tail.tail HX'.out) hn4.out) (hK _ _ ?_))
               | (refine sto_is 110 rfl ?_; refine wp_store_mid_sl 57 _ _ rfl (b := SL) (off := 5) (cells := v8 n'.1.nonce) rfl rfl (by rw [v8_length, n'.2.nonce]; exact size_nonce) (v8_one _) 0 H rfl (by rw [List.size_toArray, l3.out, v8_length, n'.2.nonce]; omega) (fun w' H => ?_); rw [List.toList_toArray, p3.out] at H; replace H : At w0 (raw SL (T 0).cells.toArray 60 :: raw D (rhC h).toArray 122 :: raw P pc.toArray 62 :: raw O rpZ.toArray 62 :: F) w' := H; refine hK _ _ (Stop.go ?_)))
              refine Stop.un ?_
              go_wp2_with fail
              go_loopw [17] (fun i wr => ∃ q : Nat, q ≤ 16 ∧ i = .int .i64 (q : Int) ∧ At w0 (raw SL (T q).cells.toArray 60 :: raw D (rhC h).toArray 122 :: raw P pc.toArray 62 :: raw O rpZ.toArray 62 :: F) wr) (fun i _ => 16 - (intOf i).toNat)
              case atStart => exact ⟨0, by omega, rfl, H⟩
              case round =>
               clear H
               obtain ⟨q, hq, rfl, H⟩ := hrel
               by_cases hq16 : q < 16
               · have hlt : (q : Int) < 16 := by omega
                 have e5 : IntKind.i64.wrap ((q : Int) + 1) = ((q + 1 : Nat) : Int) := by rw [IntKind.wrap_i64]; omega
                 have hg := Lib.hid (gb_get (bs := p.mac) (i := q) (by rw [PO.out.mac]; exact hq16))
                 have hp3 := Lib.hid (show pc[3]? = some (.string (sB p.mac)) by rw [hcc.out]; rfl)
                 have hq2 := Lib.hid (show q < (T q).mac.length by rw [(hTl.out q).2]; exact hq16)
                 have hq3 := Lib.hid (hTs.out q hq16)
                 have hq4 := Lib.hid (show 21 + q < (T q).cells.toArray.size by rw [List.size_toArray, SlotD.cells_length (hTl.out q).1 (hTl.out q).2]; omega)
                 go_wp2_with ((with_reducible refine wpList_op rfl ?_); intro _ hK; first
                  | (refine dst_is 117 rfl ?_; refine wp_get 9 _ rfl rfl (by kernel_rfl) (at_raw H 2 rfl hp3.out) (hK _ _ ?_))
                  | (refine dst_is 119 rfl ?_; refine wp_run (exec_sidx rfl under_strT rfl rfl hg.out _) (hK _ _ ?_))
                  | (refine sto_is 121 rfl ?_; refine wp_store_sl 5 _ _ rfl (b := SL) (off := 21 + q) (v := .int .u8 (iv (gb p.mac q))) rfl rfl (by kernel_rfl) rfl 0 H rfl hq4.out (fun w' H => ?_); rw [set_mac1 (T q) (hTl.out q).1 hq2.out, hq3.out] at H; replace H : At w0 (raw SL (T (q + 1)).cells.toArray 60 :: raw D (rhC h).toArray 122 :: raw P pc.toArray 62 :: raw O rpZ.toArray 62 :: F) w' := H; refine hK _ _ ?_))
                 first
                  | (refine ⟨?_, ?measure⟩; iterate 220 (try apply Exists.intro); refine ⟨?rel, rfl⟩)
                  | refine ⟨?rel, ?measure⟩
                 case rel => exact ⟨q + 1, by omega, rfl, H⟩
                 case measure => simp [intOf]; omega
               · obtain rfl : q = 16 := by omega
                 have hlt : ¬ (16 : Int) < 16 := by omega
                 rw [hT16.out] at H
                 clear hq hq16
                 go_wp2_with fail
                 go_meet
                 case rel => exact ⟨X, rfl, by rw [hXp.out], by rw [hXp.out, PO.out.head]; omega, H⟩
         case rest =>
          obtain ⟨X2, rfl, hx2, hx2l, H⟩ := hcut
          obtain ⟨G, hG⟩ : ∃ G, G = p.head.take 256 := ⟨_, rfl⟩
          have HG := Lib.hid (show X2.take 256 = G by rw [hG]; exact hx2)
          have HGl := Lib.hid (show G.length = 256 by rw [hG, List.length_take, PO.out.head]; rfl)
          have HX2 := Lib.hid hx2l
          have hbl := Lib.hid (SlotD.bytes_length SO.out.nonce SO.out.mac)
          obtain ⟨T0, hT0⟩ : ∃ T, T = xorB (s.bytes ++ G) Z := ⟨_, rfl⟩
          have HT0 := Lib.hid (show xorB (s.bytes ++ G) (Z.take 320) = T0 by
           rw [hT0]
           exact (xorB_left (by rw [List.length_append, hbl.out, HGl.out])).symm)
          have HT0l := Lib.hid (show T0.length = 320 by rw [hT0, xorB_length, List.length_append, hbl.out, HGl.out, HZl.out]; rfl)
          have hebl := Lib.hid (show eb.length ≤ 320 ∧ (k = k1 → eb = fillN hops k) ∧ (k ≠ k1 → eb = []) by
           have := HM.out
           have := K1.out
           by_cases hf : k + 1 = hops.length
           · have e : eb = fillN hops k := by
               rw [(I.out.first hf).2.1, show k = hops.length - 1 by omega]
               rfl
             refine ⟨?_, fun _ => e, fun hne => by omega⟩
             rw [e, fillN_length (by omega) (by have := M5.out; omega)]
             have := M5.out
             omega
           · have e := (I.out.later (by have := KC.out; omega)).2.1
             exact ⟨by rw [e]; simp, fun h => by omega, fun _ => e⟩)
          obtain ⟨TP, hTP⟩ : ∃ T, T = T0.take (320 - eb.length) ++ eb := ⟨_, rfl⟩
          have HTP := Lib.hid hTP
          have HTPl := Lib.hid (show TP.length = 320 by rw [hTP, List.length_append, List.length_take, HT0l.out]; have := hebl.out.1; omega)
          obtain ⟨q0, hq0⟩ : ∃ q : PktD, q = ⟨h.1.who, h.1.epoch, h.1.nonce, [], TP, xorB p.body Y⟩ := ⟨_, rfl⟩
          have HQ0 := Lib.hid (show rpC q0 = [.string (sB (beN 2 h.1.who)), .string (sB (beN 4 h.1.epoch)), .string (sB h.1.nonce), .string ByteArray.empty, .string (sB TP), .string (sB (xorB p.body Y))] by rw [hq0]; rfl)
          have HL0 := Lib.hid (show q0.lens by rw [hq0]; exact ⟨h.2.nonce, HTPl.out, by show (xorB p.body Y).length = 256; rw [xorB_length, PO.out.body, HYl.out]; rfl⟩)
          obtain ⟨M, hMM⟩ : ∃ M, M = macOf h.1.key q0 := ⟨_, rfl⟩
          have HMM := Lib.hid hMM
          obtain ⟨q, hq⟩ : ∃ q : PktD, q = { q0 with mac := M } := ⟨_, rfl⟩
          have HQ := Lib.hid (show (rpC q0).toArray.setIfInBounds 3 (.string (sB M)) = (rpC q).toArray by rw [hq]; rfl)
          have HQS := Lib.hid (show q = { outOf h.1 next p eb box with mac := macOf h.1.key (outOf h.1 next p eb box) } by
           have e : outOf h.1 next p eb box = { q0 with mac := zs 16 } := by
            rw [hq0, hTP, hT0, hG, EZ.out, EY.out, HS.out]
            rfl
           rw [e, hq, hMM]
           rfl)
          have HQO := Lib.hid (show q.ok by
           rw [hq]
           exact ⟨by rw [hq0]; exact h.2.who, by rw [hq0]; exact h.2.epoch, HL0.out.nonce, by show M.length = 16; rw [hMM]; exact sumOf_length _ _, HL0.out.head, HL0.out.body⟩)
          clear hG hx2 hx2l hT0 hTP hq0 hMM hq
          go_wp2_with ((with_reducible refine wpList_op rfl ?_); intro _ hK; first
           | (refine dst_is 123 rfl ?_; refine wp_get 9 _ rfl rfl (by kernel_rfl) (at_raw H 1 rfl d2.out) (hK _ _ (Stop.go ?_))))
          refine Stop.un ?_
          go_wp2_with fail
          refine (RHead_c (key := h.1.key) (e := beN 4 h.1.epoch) (n := h.1.nonce) H HK.out (by rw [beN_length]; omega) (by rw [h.2.nonce]; omega)).mono ?_; rintro e w' ⟨rfl, H⟩
          rw [HZ.out]
          go_wp2_with fail
          refine wpS_begin [] (raw SL s.cells.toArray 60 :: raw D (rhC h).toArray 122 :: raw P pc.toArray 62 :: raw O rpZ.toArray 62 :: F) (.tk 0 (.fr 1 (.fr 2 (.fr 3 (.fr 4 (.fr 5 (.fr 6 (.fr 7 (.nx 8 .nil))))))))) rfl (by kernel_rfl) (by kernel_rfl) H ?_
          clear H
          intro ops hOps
          refine wpS_take hOps rfl (fun _ _ _ h => h) pk (GY.of_yields (yl_mid rfl 60 _ rfl (b := SL) (off := 0) rfl s.cells (by kernel_rfl) (by rw [hsl.out]; exact size_slot) (fun w hw => at_blk hw 0 rfl))) ?_
          simp only [nrm]
          refine wpS_fcall hOps (v := ?vOp3436) rfl (fun _ _ _ h => h) (GY.call rfl _ _ _ rfl Tryz.func80 rfl (by kernel_rfl) ?yOp3436) ?_
          case yOp3436 =>
           intro L w f H
           simp only [List.map_toArray, List.map_cons, List.map_nil, nrm]
           exact (RWrite_c H SO.out)
          simp only [nrm]
          refine fs hOps ?_
          refine wpS_free hOps rfl (fun _ _ _ h => h) (yl_slice rfl 9 (.tmp 129) none (some (.const (.int .i64 256))) none rfl (v := .string (sB G)) (fun w => by have q := run_stake (l := X2) (J := 256) (j := 256) under_strT rfl HX2.out w; rw [HG.out] at q; exact q)) ?_
          simp only [nrm]
          refine wpS_free hOps rfl (fun _ _ _ h => h) (yl rfl (fun w _ => exec_sadd (u := s.bytes) (v := G) rfl rfl rfl (by rw [hbl.out, HGl.out]; omega) w)) ?_
          simp only [nrm]
          refine fs hOps ?_
          refine wpS_free hOps rfl (fun _ _ _ h => h) (yl_slice rfl 9 (.tmp 132) none (some (.const (.int .i64 320))) none rfl (v := .string (sB (Z.take 320))) (fun w => run_stake (l := Z) (J := 320) (j := 320) under_strT rfl (by rw [HZl.out]; omega) w)) ?_
          simp only [nrm]
          refine wpS_fcall hOps (v := ?vOp3450) rfl (fun _ _ _ h => h) (GY.call rfl _ _ _ rfl Tryz.func79 rfl (by kernel_rfl) ?yOp3450) ?_
          case yOp3450 =>
           intro L w f H
           simp only [List.map_toArray, List.map_cons, List.map_nil, nrm]
           exact (by have q := RXor_c (a := s.bytes ++ G) (b := Z.take 320) H (by rw [List.length_append, hbl.out, HGl.out, List.length_take, HZl.out]; rfl) (by rw [List.length_append, hbl.out, HGl.out]; omega); rw [HT0.out] at q; exact q)
          simp only [nrm]
          refine wpS_next hOps rfl rfl ?_
          intro w H K hK
          refine wp_run rfl ?_
          refine hK _ _ _ (.inr (.inl (Imp.refl _))) H ?_
          clear hK K H
          try simp only [nrm]
          refine wpS_end (fun w H => ?_)
          clear hOps ops
          go_upto_if 138 with fail
          go_cut [19] from 122 to 149 (fun v wr => v = .string (sB TP) ∧ At w0 (raw SL s.cells.toArray 60 :: raw D (rhC h).toArray 122 :: raw P pc.toArray 62 :: raw O rpZ.toArray 62 :: F) wr)
          case first =>
           by_cases hf : k = k1
           · as_aux_lemma =>
               have he := Lib.hid (hebl.out.2.1 hf)
               obtain ⟨l, hl⟩ : ∃ l, l = eb.length := ⟨_, rfl⟩
               have hsz : (sB eb).size = l := by rw [sB_size, hl]
               obtain ⟨d, hd⟩ : ∃ d, d + l = 320 := ⟨320 - l, by have := hebl.out.1; omega⟩
               have s1 : (320 : Int) - (l : Int) = (d : Int) := by omega
               have s2 : IntKind.i64.wrap (d : Int) = (d : Int) := by rw [IntKind.wrap_i64]; omega
               have htp := Lib.hid (show T0.take d ++ eb = TP by rw [HTP.out, ← hl, show 320 - l = d by omega])
               have hd3 := Lib.hid (show d ≤ T0.length by rw [HT0l.out]; omega)
               have hll := Lib.hid (show (T0.take d).length + eb.length ≤ 1000 by rw [List.length_take, HT0l.out, ← hl]; omega)
               have hkl := Lib.hid (show k ≤ hops.length by have := HM.out; have := KC.out; omega)
               have h5 := Lib.hid (show hops.length ≤ 5 by have := HM.out; have := M5.out; omega)
               rw [show ((k : Int) == (k1 : Int)) = true by simp; omega]
               clear hl hd hf
               go_wp2_with fail
               refine (RBehind_c (n := k) H ((((HV.out.more _).more _).more _).more _) hkl.out h5.out).mono ?_; rintro e w' ⟨rfl, H⟩
               rw [← he.out]
               go_wp2_with ((with_reducible refine wpList_op rfl ?_); intro _ hK; first
                | (refine dst_is 146 rfl ?_; refine wp_slice 9 _ _ _ _ rfl (run_stake (l := T0) (J := (d : Int)) (j := d) under_strT rfl hd3.out _) (hK _ _ ?_))
                | (refine dst_is 148 rfl ?_; refine wp_sadd _ _ _ _ rfl (u := T0.take d) (v := eb) rfl rfl (by have := hll.out; omega) ?_; rw [htp.out]; refine hK _ _ ?_))
               go_meet
               case rel => exact ⟨rfl, H⟩
           · as_aux_lemma =>
               have he := Lib.hid (hebl.out.2.2 hf)
               have htp := Lib.hid (show T0 = TP by rw [HTP.out, he.out, List.append_nil, List.length_nil, Nat.sub_zero, ← HT0l.out, List.take_length])
               rw [show ((k : Int) == (k1 : Int)) = false by simp; omega]
               clear hf
               go_wp2_with fail
               go_meet
               case rel => exact ⟨by rw [← htp.out], H⟩
          case rest =>
           obtain ⟨rfl, H⟩ := hcut
           go_wp2_with fail
           refine wpS_begin [16] (raw SL s.cells.toArray 60 :: raw D (rhC h).toArray 122 :: raw P pc.toArray 62 :: raw O rpZ.toArray 62 :: F) (.fr 0 (.tk 1 (.fr 2 (.fr 3 (.fr 4 (.fr 5 (.fr 6 (.fr 7 (.tk 8 (.fr 9 (.tk 10 (.fr 11 (.fr 12 (.fr 13 (.fr 14 (.fr 15 (.nx 16 .nil))))))))))))))))) rfl (by kernel_rfl) (by kernel_rfl) H ?_
           clear H
           intro ops hOps
           refine fs hOps ?_
           refine ts hOps (fun w hw => at_raw hw 1 rfl d1.out) ?_
           refine fs hOps ?_
           refine wpS_fcall hOps (v := ?vOp3462) rfl (fun _ _ _ h => h) (GY.call rfl _ _ _ rfl Tryz.func76 rfl (by kernel_rfl) ?yOp3462) ?_
           case yOp3462 =>
            intro L w f H
            simp only [List.map_toArray, List.map_cons, List.map_nil, nrm]
            exact (RText11_c (n := h.1.who) (k := 2) H (by have := h.2.who; omega) (by omega))
           simp only [nrm]
           iterate 4 refine fs hOps ?_
           refine ts hOps (fun w hw => at_raw hw 2 rfl hp5.out) ?_
           refine fs hOps ?_
           refine ts hOps (fun w hw => at_raw hw 1 rfl d2.out) ?_
           iterate 2 refine fs hOps ?_
           refine wpS_fcall hOps (v := ?vOp3487) rfl (fun _ _ _ h => h) (GY.call rfl _ _ _ rfl Tryz.func82 rfl (by kernel_rfl) ?yOp3487) ?_
           case yOp3487 =>
            intro L w f H
            simp only [List.map_toArray, List.map_cons, List.map_nil, nrm]
            exact (by have q := RBody_c (key := h.1.key) (e := beN 4 h.1.epoch) (n := h.1.nonce) H HK.out (by rw [beN_length]; omega) (by rw [h.2.nonce]; omega); rw [HY.out] at q; exact q)
           simp only [nrm]
           refine wpS_fcall hOps (v := ?vOp3489) rfl (fun _ _ _ h => h) (GY.call rfl _ _ _ rfl Tryz.func79 rfl (by kernel_rfl) ?yOp3489) ?_
           case yOp3489 =>
            intro L w f H
            simp only [List.map_toArray, List.map_cons, List.map_nil, nrm]
            exact (RXor_c (a := p.body) (b := Y) H (by rw [PO.out.body, HYl.out]) (by rw [PO.out.body]; omega))
           simp only [nrm]
           refine wpS_free hOps rfl (fun _ _ _ h => h) (Hg.yl_build rfl 62 _ rfl (by rw [Array.toList_map]; rfl) (fun w => built_rp5 w _ _ _ _ _)) ?_
           simp only [nrm]
           refine wpS_next hOps rfl rfl ?_
           intro w H K hK
           refine wp_store_row_sl 62 _ _ rfl (b := P) (cells := (rpC q0).toArray) rfl (by rw [HQ0.out]; rfl) rp_size (rpC_one q0) 2 H rfl (by rw [hpl.out]; rfl) (fun w' H => ?_)
           replace H : At w0 (raw SL s.cells.toArray 60 :: raw D (rhC h).toArray 122 :: raw P (rpC q0).toArray 62 :: raw O rpZ.toArray 62 :: F) w' := H
           refine hK _ _ _ (.inl (by decide)) H ?_
           clear hK K H
           try simp only [nrm]
           refine wpS_end (fun w H => ?_)
           clear hOps ops
           go_wp2_with ((with_reducible refine wpList_op rfl ?_); intro _ hK; first
            | (refine dst_is 166 rfl ?_; refine wp_get 9 _ rfl rfl (by kernel_rfl) (at_raw H 1 rfl d2.out) (hK _ _ ?_))
            | (refine dst_is 167 rfl ?_; refine wp_mid 62 _ rfl rfl (rpC q0) (by kernel_rfl) rp_size (at_blk H 2 rfl) (hK _ _ (Stop.go ?_))))
           refine Stop.un ?_
           go_wp2_with fail
           refine (RMAC11_l H HK.out HL0.out).mono ?_; rintro e w' ⟨rfl, H⟩
           rw [← HMM.out]
           go_wp2_with ((with_reducible refine wpList_op rfl ?_); intro _ hK; first
            | (refine sto_is 169 rfl ?_; refine wp_store_sl 9 _ _ rfl (b := P) (off := 3) (v := .string (sB M)) rfl rfl (by kernel_rfl) rfl 2 H rfl (by show 3 < 6; omega) (fun w' H => ?_); rw [HQ.out] at H; replace H : At w0 (raw P (rpC q).toArray 62 :: raw O rpZ.toArray 62 :: F) w' := H.maskR [false, false, true, true]; refine hK _ _ ?_))
           first
            | (refine ⟨?_, ?measure⟩; iterate 220 (try apply Exists.intro); refine ⟨?rel, rfl⟩)
            | refine ⟨?rel, ?measure⟩
           case rel => exact ⟨k, (k : Int) - 1, rpC q, some h.1, q, [], by have := KC.out; omega, rfl, rfl, I.out.step HX.out HLE.out HQS.out HQO.out, H⟩
           case measure => simp [intOf]
theorem RBuild_c {w0 w : World} {F : List SP} {v : Value} {hops : List HopO} {box : Nat} {body : List (BitVec 8)} (H : At w0 F w) (hv : SeeL 23 rhC w0 F v hops) (hb : body.length = 256) (hbox : box < 65536) :
    Calls Tryz.prog 49 #[v, .int .u16 (box : Int), .string (sB body)] w fun r w' => r = .returned (.tuple #[.agg (rpB (buildOf (hops.map (·.1)) box body)).toArray, .int .i64 (BldE (buildOf (hops.map (·.1)) box body))]) ∧ At w0 F w' := by
 by_cases h : 1 ≤ hops.length ∧ hops.length ≤ 5
 · exact RBuild_main H hv hb hbox h.1 h.2
 · obtain ⟨a, cap, rfl, _, _⟩ := hv.slice
   have e : buildOf (hops.map (·.1)) box body = none := by
    unfold buildOf
    rw [if_pos (by rw [List.length_map]; omega)]
   rw [e]
   exact RBuild_few H (by omega)
end Go.Proofs.YtmflbekabkainaaGreatDoor
