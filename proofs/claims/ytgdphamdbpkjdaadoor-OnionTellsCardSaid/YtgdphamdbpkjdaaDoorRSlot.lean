/-
  The reference of chapter 10 (slots), over texts: it is the plain functions of the program's own.
-/
import Derived.Test.YtgdphamdbpkjdaaDoorRA
import Derived.Test.YtgdphamdbpkjdaaDoorSlotC
import Derived.Test.YtgdphamdbpkjdaaDoorHgD
import Derived.Test.YtgdphamdbpkjdaaDoorFree
import Derived.Test.YtgdphamdbpkjdaaDoorRCha
import Derived.Deep.CutRange
namespace Go.Proofs.YtgdphamdbpkjdaaDoor
open Go.RowKit Go.Hg
set_option linter.unusedSimpArgs false
set_option linter.unusedVariables false
theorem cut_two {α : Type} (l : List α) (p n m : Nat) : (l.drop p).take (n + m) = (l.drop p).take n ++ (l.drop (p + n)).take m := by rw [List.take_add, List.drop_drop]
theorem readD_bytes_eq {b : List (BitVec 8)} (hb : b.length = 64) : (SlotD.readD b).bytes = beN 1 (SlotD.readD b).kind ++ (b.drop 1).take 60 ++ zs 3 := by
  have l : ∀ p k, p + k ≤ 64 → ((b.drop p).take k).length = k := fun p k h => by rw [List.length_take, List.length_drop]; omega
  have t : ∀ p k, p + k ≤ 64 → beN k (deN ((b.drop p).take k)) = (b.drop p).take k := fun p k h => by
    have := beN_deN ((b.drop p).take k)
    rwa [l p k h] at this
  have e2 : (SlotD.readD b).to = deN ((b.drop 1).take 2) := by
    unfold SlotD.to SlotD.readD
    simp only
    split <;> simp_all
  unfold SlotD.bytes
  rw [e2, t 1 2 (by omega)]
  show beN 1 _ ++ _ ++ beN 8 (deN ((b.drop 3).take 8)) ++ beN 8 (deN ((b.drop 11).take 8)) ++ beN 4 (deN ((b.drop 19).take 4)) ++ beN 2 (deN ((b.drop 23).take 2)) ++ beN 4 (deN ((b.drop 25).take 4)) ++ (b.drop 29).take 16 ++ (b.drop 45).take 16 ++ zs 3 = _
  rw [t 3 8 (by omega), t 11 8 (by omega), t 19 4 (by omega), t 23 2 (by omega), t 25 4 (by omega)]
  rw [show (60 : Nat) = 2 + (8 + (8 + (4 + (2 + (4 + (16 + 16)))))) from rfl, cut_two, cut_two, cut_two, cut_two, cut_two, cut_two, cut_two]
  simp only [List.append_assoc]
theorem dec_ref {b : List (BitVec 8)} (hb : b.length = 64) : ((SlotD.readD b).bytes = b) ↔ ((gb b 0).toNat ≤ 1 ∧ b.drop 61 = zs 3) := by
  have h0 : b.take 1 = [gb b 0] := by
    have := gb_get (bs := b) (i := 0) (by omega)
    match b, hb with
    | x :: r, _ => rfl
  have hw : b = (b.take 1 ++ (b.drop 1).take 60) ++ b.drop 61 := by
    have e1 : b.drop 1 = (b.drop 1).take 60 ++ b.drop 61 := by
      have := (List.take_append_drop 60 (b.drop 1)).symm
      rwa [List.drop_drop] at this
    rw [List.append_assoc, ← e1, List.take_append_drop]
  have hl : (SlotD.readD b).last = decide ((gb b 0).toNat = 1) := by
    show decide (deN (b.take 1) = 1) = _
    rw [h0]
    show decide (0 * 256 + (gb b 0).toNat = 1) = _
    rw [Nat.zero_mul, Nat.zero_add]
  have hk : (SlotD.readD b).kind = if (gb b 0).toNat = 1 then 1 else 0 := by
    unfold SlotD.kind
    rw [hl]
    simp
  have hbe : ∀ k, beN 1 k = [BitVec.ofNat 8 k] := fun k => rfl
  have hx : (gb b 0).toNat ≤ 1 ↔ beN 1 (SlotD.readD b).kind = b.take 1 := by
    rw [hk, h0, hbe]
    constructor
    · intro h
      congr 1
      apply BitVec.eq_of_toNat_eq
      rw [BitVec.toNat_ofNat]
      split <;> omega
    · intro h
      have h2 : BitVec.ofNat 8 (if (gb b 0).toNat = 1 then 1 else 0) = gb b 0 := by simpa using h
      rw [← h2, BitVec.toNat_ofNat]
      split <;> omega
  rw [readD_bytes_eq hb, hx]
  constructor
  · intro h
    have h2 := h.trans hw
    have h3 := List.append_inj h2 (by rw [List.length_append, List.length_append, beN_length, h0]; rfl)
    have h4 := List.append_inj h3.1 (by rw [beN_length, h0]; rfl)
    exact ⟨h4.1, h3.2.symm⟩
  · rintro ⟨h1, h2⟩
    rw [h1, ← h2]
    exact hw.symm
theorem right_n {s : SlotD} (h : s.last = false) : s.right = (decide (s.lo ≤ s.hi) && decide (s.box = 0)) := by
  have e : (s = s.only) ↔ s.box = 0 := by
    unfold SlotD.only
    rw [h]
    constructor
    · intro h2
      have := congrArg SlotD.box h2
      simpa using this
    · intro h2
      cases s
      simp_all
  unfold SlotD.right
  rw [Bool.eq_iff_iff]
  simp [e]
theorem right_l {s : SlotD} (h : s.last = true) : s.right = (decide (s.lo ≤ s.hi) && (decide (s.next = 0) && (decide (s.who = 0) && (decide (s.epoch = 0) && (decide (s.nonce = zs 16) && decide (s.mac = zs 16)))))) := by
  have e : (s = s.only) ↔ (s.next = 0 ∧ s.who = 0 ∧ s.epoch = 0 ∧ s.nonce = zs 16 ∧ s.mac = zs 16) := by
    unfold SlotD.only
    rw [h]
    constructor
    · intro h2
      exact ⟨congrArg SlotD.next h2, congrArg SlotD.who h2, congrArg SlotD.epoch h2, congrArg SlotD.nonce h2, congrArg SlotD.mac h2⟩
    · rintro ⟨a, b, c, d, e⟩
      cases s
      simp_all
  unfold SlotD.right
  rw [Bool.eq_iff_iff]
  simp [e]
set_option maxRecDepth 10000 in
set_option maxHeartbeats 1000000 in
theorem RSixteen_c {w0 w : World} {F : List SP} {l : List (BitVec 8)} (H : At w0 F w) (hl : l.length = 16) : Calls Tryd.prog 58 #[.string (sB l)] w fun r w' => r = .returned (.agg (v8 l).toArray) ∧ At w0 F w' := by
  have info16 : (Tryd.prog.info? 31).map (fun i => (i.zero, i.size, i.bytes)) = some (some (.agg (v8 (zs 16)).toArray), 16, 16) := by kernel_rfl
  have size16 : (Tryd.prog.info? 31).map (·.size) = some 16 := by kernel_rfl
  have I16 := Lib.hid info16
  have S16 := Lib.hid size16
  have HL := Lib.hid hl
  have hz := Lib.hid (zs_length 16)
  clear info16 size16 hl
  go_enter Tryd.func58, Tryd.ntmps58
  go_wp2_with ((with_reducible refine wpList_op rfl ?_); intro _ hK; first
    | (refine dst_is 2 rfl ?_; refine wp_alloc_sl 31 rfl I16.out H (fun A w' (H : At w0 (raw A (v8 (zs 16)).toArray 31 :: F) w') _ => hK _ _ ?_))
    | (refine dst_is 5 rfl ?_; refine Hg.wp_build 31 _ rfl rfl (v := .agg (v8 (zs 16)).toArray) (run_build _ _ _ _ (by kernel_rfl)) (hK _ _ ?_))
    | (refine dst_is 3 rfl ?_; refine wp_alloc_sl 31 rfl I16.out H (fun B w' (H : At w0 (raw B (v8 (zs 16)).toArray 31 :: raw A (v8 (zs 16)).toArray 31 :: F) w') _ => hK _ _ ?_))
    | (refine sto_is 3 rfl ?_; refine wp_sta 31 _ _ rfl (cs := zs 16) rfl rfl (by rw [hz.out]; exact S16.out) 0 H rfl rfl (fun w' (H : At w0 (raw B (v8 (zs 16)).toArray 31 :: raw A (v8 (zs 16)).toArray 31 :: F) w') => hK _ _ (Stop.go ?_))))
  refine Stop.un ?_
  go_wp2_with fail
  go_loopw [4] (fun i wr => ∃ c : Nat, c ≤ 16 ∧ i = .int .i64 (c : Int) ∧ At w0 (raw B (v8 (over l (zs 16) c)).toArray 31 :: raw A (v8 (zs 16)).toArray 31 :: F) wr) (fun i _ => 16 - (intOf i).toNat)
  case atStart => exact ⟨0, by omega, rfl, by rw [over_zero]; exact H⟩
  case round =>
    clear H
    obtain ⟨c, hc, rfl, H⟩ := hrel
    by_cases hlt : c < 16
    · have hlt' : (c : Int) < 16 := by omega
      have hlz := Lib.hid (show l.length = (zs 16).length by rw [HL.out, zs_length])
      have hset := Lib.hid (over_set hlz.out (i := c) (by rw [zs_length]; exact hlt))
      have hin := Lib.hid (show c < (over l (zs 16) c).length by rw [over_length hlz.out, zs_length]; exact hlt)
      have hg := Lib.hid (gb_get (bs := l) (i := c) (by rw [HL.out]; exact hlt))
      go_wp2_with ((with_reducible refine wpList_op rfl ?_); intro _ hK; first
        | (refine dst_is 13 rfl ?_; refine wp_run (exec_sidx rfl under_strT rfl rfl hg.out _) (hK _ _ ?_))
        | (refine sto_is 14 rfl ?_; refine wp_st8 5 _ _ rfl (i := c) (v := gb l c) rfl rfl (by kernel_rfl) 0 H rfl hin.out (fun w' H => ?_); rw [hset.out] at H; replace H : At w0 (raw B (v8 (over l (zs 16) (c + 1))).toArray 31 :: raw A (v8 (zs 16)).toArray 31 :: F) w' := H; refine hK _ _ ?_))
      first
        | (refine ⟨?_, ?measure⟩; iterate 220 (try apply Exists.intro); refine ⟨?rel, rfl⟩)
        | refine ⟨?rel, ?measure⟩
      case rel => exact ⟨c + 1, by omega, by go_num, H⟩
      case measure => simp [intOf]; omega
    · obtain rfl : c = 16 := by omega
      have hlt' : ¬ (16 : Int) < 16 := by omega
      have hf := Lib.hid (show over l (zs 16) 16 = l from over_full (by rw [HL.out, zs_length]) (by rw [zs_length]))
      rw [hf.out] at H
      clear hc hlt
      go_wp2_with ((with_reducible refine wpList_op rfl ?_); intro _ hK; first
        | (refine dst_is 15 rfl ?_; refine wp_lda 31 _ rfl rfl (by kernel_rfl) (by rw [HL.out]; exact S16.out) 0 H rfl (hK _ _ ?_))
        | (refine sto_is 2 rfl ?_; refine wp_sta 31 _ _ rfl (cs := l) rfl rfl (by rw [HL.out]; exact S16.out) 1 H rfl (by rw [HL.out, hz.out]) (fun w' (H : At w0 (raw B (v8 l).toArray 31 :: raw A (v8 l).toArray 31 :: F) w') => hK _ _ ?_)))
      exact bodyPost_ret (v := .agg (v8 l).toArray) (results_row rfl _ rfl (at_blk H 1 rfl) (by kernel_rfl) (by rw [v8_length, HL.out]; exact S16.out)) rfl ⟨rfl, H.maskR [false, false]⟩
theorem natz {n : Nat} (h : n = 0) : ((n : Int) == 0) = true := by subst h; rfl
theorem natnz {n : Nat} (h : n ≠ 0) : ((n : Int) == 0) = false := by
  rw [beq_eq_false_iff_ne]
  omega
set_option maxRecDepth 10000 in
set_option maxHeartbeats 2000000 in
theorem RRight_c {w0 w : World} {F : List SP} {s : SlotD} (H : At w0 F w) (so : s.ok) : Calls Tryd.prog 59 #[.agg s.cells.toArray] w fun r w' => r = .returned (.bool s.right) ∧ At w0 F w' := by
  have SO := Lib.hid so
  have h37 := Lib.hid (show s.cells[37]? = some (.int .u64 (s.lo : Int)) from SlotD.cells_post so.nonce so.mac 0)
  have h38 := Lib.hid (show s.cells[38]? = some (.int .u64 (s.hi : Int)) from SlotD.cells_post so.nonce so.mac 1)
  have h1 := Lib.hid (show s.cells[1]? = some (.int .u16 (s.next : Int)) from rfl)
  have h2 := Lib.hid (show s.cells[2]? = some (.int .u16 (s.box : Int)) from rfl)
  have h3 := Lib.hid (show s.cells[3]? = some (.int .u16 (s.who : Int)) from rfl)
  have h4 := Lib.hid (show s.cells[4]? = some (.int .u32 (s.epoch : Int)) from rfl)
  have h5 := Lib.hid (SlotD.cells_nonce so.nonce)
  have h6 := Lib.hid (SlotD.cells_mac so.nonce so.mac)
  cases hl : s.last with
  | false =>
    have h0 := Lib.hid (show s.cells[0]? = some (.bool false) by rw [← hl]; rfl)
    have hr := right_n hl
    by_cases hle : s.lo ≤ s.hi
    · have hle' : ¬ (s.hi : Int) < (s.lo : Int) := by omega
      have RES := Lib.hid (show s.right = decide (s.box = 0) by rw [hr]; simp [hle])
      have hb : ((s.box : Int) == 0) = decide (s.box = 0) := by
        by_cases h : s.box = 0
        · rw [natz h]; simp [h]
        · rw [natnz h]; simp [h]
      clear hr hle hl so
      go_enter Tryd.func59, Tryd.ntmps59
      go_wp2_with ((first | (with_reducible refine wpList_op rfl ?_) | (refine wpList_opif (by rfl) ?_)); intro _ hK; first
        | (refine dst_is 1 rfl ?_; refine wp_box_sl (v := .agg s.cells.toArray) 45 _ rfl rfl H (fun B w' (H : At w0 (raw B s.cells.toArray 45 :: F) w') _ => hK _ _ ?_))
        | (refine dst_is 5 rfl ?_; refine wp_get 33 _ rfl rfl (by kernel_rfl) (at_raw H 0 rfl h37.out) (hK _ _ ?_))
        | (refine dst_is 7 rfl ?_; refine wp_get 33 _ rfl rfl (by kernel_rfl) (at_raw H 0 rfl h38.out) (hK _ _ ?_))
        | (refine dst_is 10 rfl ?_; refine wp_get 4 _ rfl rfl (by kernel_rfl) (at_raw H 0 rfl h0.out) (hK _ _ ?_))
        | (refine dst_is 13 rfl ?_; refine wp_get 43 _ rfl rfl (by kernel_rfl) (at_raw H 0 rfl h2.out) (hK _ _ ?_))
        | (refine dst_is 17 rfl ?_; refine wp_get 26 _ rfl rfl (by kernel_rfl) (at_raw H 0 rfl h1.out) (hK _ _ ?_))
        | (refine dst_is 21 rfl ?_; refine wp_get 27 _ rfl rfl (by kernel_rfl) (at_raw H 0 rfl h3.out) (hK _ _ ?_))
        | (refine dst_is 26 rfl ?_; refine wp_get 30 _ rfl rfl (by kernel_rfl) (at_raw H 0 rfl h4.out) (hK _ _ ?_))
        | (refine dst_is 32 rfl ?_; refine wp_run (exec_str_of (bs := s.nonce) rfl under_bytesT under_u8T under_strT rfl H (see_part 0 rfl SO.out.nonce.symm (Nat.le_refl _) h5.out)) (hK _ _ ?_))
        | (refine dst_is 39 rfl ?_; refine wp_run (exec_str_of (bs := s.mac) rfl under_bytesT under_u8T under_strT rfl H (see_part 0 rfl SO.out.mac.symm (Nat.le_refl _) h6.out)) (hK _ _ ?_)))
      go_ret
      exact ⟨by rw [RES.out]; rfl, H.tail⟩
    · have hle' : (s.hi : Int) < (s.lo : Int) := by omega
      have RES := Lib.hid (show s.right = false by rw [hr]; simp [hle])
      clear hr hle hl so
      go_enter Tryd.func59, Tryd.ntmps59
      go_wp2_with ((first | (with_reducible refine wpList_op rfl ?_) | (refine wpList_opif (by rfl) ?_)); intro _ hK; first
        | (refine dst_is 1 rfl ?_; refine wp_box_sl (v := .agg s.cells.toArray) 45 _ rfl rfl H (fun B w' (H : At w0 (raw B s.cells.toArray 45 :: F) w') _ => hK _ _ ?_))
        | (refine dst_is 5 rfl ?_; refine wp_get 33 _ rfl rfl (by kernel_rfl) (at_raw H 0 rfl h37.out) (hK _ _ ?_))
        | (refine dst_is 7 rfl ?_; refine wp_get 33 _ rfl rfl (by kernel_rfl) (at_raw H 0 rfl h38.out) (hK _ _ ?_))
        | (refine dst_is 10 rfl ?_; refine wp_get 4 _ rfl rfl (by kernel_rfl) (at_raw H 0 rfl h0.out) (hK _ _ ?_))
        | (refine dst_is 13 rfl ?_; refine wp_get 43 _ rfl rfl (by kernel_rfl) (at_raw H 0 rfl h2.out) (hK _ _ ?_))
        | (refine dst_is 17 rfl ?_; refine wp_get 26 _ rfl rfl (by kernel_rfl) (at_raw H 0 rfl h1.out) (hK _ _ ?_))
        | (refine dst_is 21 rfl ?_; refine wp_get 27 _ rfl rfl (by kernel_rfl) (at_raw H 0 rfl h3.out) (hK _ _ ?_))
        | (refine dst_is 26 rfl ?_; refine wp_get 30 _ rfl rfl (by kernel_rfl) (at_raw H 0 rfl h4.out) (hK _ _ ?_))
        | (refine dst_is 32 rfl ?_; refine wp_run (exec_str_of (bs := s.nonce) rfl under_bytesT under_u8T under_strT rfl H (see_part 0 rfl SO.out.nonce.symm (Nat.le_refl _) h5.out)) (hK _ _ ?_))
        | (refine dst_is 39 rfl ?_; refine wp_run (exec_str_of (bs := s.mac) rfl under_bytesT under_u8T under_strT rfl H (see_part 0 rfl SO.out.mac.symm (Nat.le_refl _) h6.out)) (hK _ _ ?_)))
      go_ret
      exact ⟨by rw [RES.out]; rfl, H.tail⟩
  | true =>
    have h0 := Lib.hid (show s.cells[0]? = some (.bool true) by rw [← hl]; rfl)
    have hr := right_l hl
    by_cases hle : s.lo ≤ s.hi
    · have hle' : ¬ (s.hi : Int) < (s.lo : Int) := by omega
      by_cases c0 : s.next = 0
      · skip
        by_cases c1 : s.who = 0
        · skip
          by_cases c2 : s.epoch = 0
          · skip
            by_cases c3 : s.nonce = zs 16
            · skip
              by_cases c4 : s.mac = zs 16
              · as_aux_lemma =>
                  have RES := Lib.hid (show s.right = true by rw [hr]; simp [hle, c0, c1, c2, c3, c4])
                  have f0 := natz c0
                  have f1 := natz c1
                  have f2 := natz c2
                  have f3 := Lib.hid (show decide (s.nonce = zs 16) = true by simp [c3])
                  have f4 := Lib.hid (show decide (s.mac = zs 16) = true by simp [c4])
                  clear hr hle hl so c0 c1 c2 c3 c4
                  go_enter Tryd.func59, Tryd.ntmps59
                  go_wp2_with ((first | (with_reducible refine wpList_op rfl ?_) | (refine wpList_opif (by rfl) ?_)); intro _ hK; first
                    | (refine dst_is 1 rfl ?_; refine wp_box_sl (v := .agg s.cells.toArray) 45 _ rfl rfl H (fun B w' (H : At w0 (raw B s.cells.toArray 45 :: F) w') _ => hK _ _ ?_))
                    | (refine dst_is 5 rfl ?_; refine wp_get 33 _ rfl rfl (by kernel_rfl) (at_raw H 0 rfl h37.out) (hK _ _ ?_))
                    | (refine dst_is 7 rfl ?_; refine wp_get 33 _ rfl rfl (by kernel_rfl) (at_raw H 0 rfl h38.out) (hK _ _ ?_))
                    | (refine dst_is 10 rfl ?_; refine wp_get 4 _ rfl rfl (by kernel_rfl) (at_raw H 0 rfl h0.out) (hK _ _ ?_))
                    | (refine dst_is 13 rfl ?_; refine wp_get 43 _ rfl rfl (by kernel_rfl) (at_raw H 0 rfl h2.out) (hK _ _ ?_))
                    | (refine dst_is 17 rfl ?_; refine wp_get 26 _ rfl rfl (by kernel_rfl) (at_raw H 0 rfl h1.out) (hK _ _ ?_))
                    | (refine dst_is 21 rfl ?_; refine wp_get 27 _ rfl rfl (by kernel_rfl) (at_raw H 0 rfl h3.out) (hK _ _ ?_))
                    | (refine dst_is 26 rfl ?_; refine wp_get 30 _ rfl rfl (by kernel_rfl) (at_raw H 0 rfl h4.out) (hK _ _ ?_))
                    | (refine dst_is 32 rfl ?_; refine wp_run (exec_str_of (bs := s.nonce) rfl under_bytesT under_u8T under_strT rfl H (see_part 0 rfl SO.out.nonce.symm (Nat.le_refl _) h5.out)) (hK _ _ ?_))
                    | (refine dst_is 39 rfl ?_; refine wp_run (exec_str_of (bs := s.mac) rfl under_bytesT under_u8T under_strT rfl H (see_part 0 rfl SO.out.mac.symm (Nat.le_refl _) h6.out)) (hK _ _ ?_)))
                  refine (RZeros_c (n := 16) H (by omega)).mono ?_; rintro e w' ⟨rfl, H⟩
                  go_wp2_with ((first | (with_reducible refine wpList_op rfl ?_) | (refine wpList_opif (by rfl) ?_)); intro _ hK; first
                    | (refine dst_is 17 rfl ?_; refine wp_get 26 _ rfl rfl (by kernel_rfl) (at_raw H 0 rfl h1.out) (hK _ _ ?_))
                    | (refine dst_is 21 rfl ?_; refine wp_get 27 _ rfl rfl (by kernel_rfl) (at_raw H 0 rfl h3.out) (hK _ _ ?_))
                    | (refine dst_is 26 rfl ?_; refine wp_get 30 _ rfl rfl (by kernel_rfl) (at_raw H 0 rfl h4.out) (hK _ _ ?_))
                    | (refine dst_is 32 rfl ?_; refine wp_run (exec_str_of (bs := s.nonce) rfl under_bytesT under_u8T under_strT rfl H (see_part 0 rfl SO.out.nonce.symm (Nat.le_refl _) h5.out)) (hK _ _ ?_))
                    | (refine dst_is 39 rfl ?_; refine wp_run (exec_str_of (bs := s.mac) rfl under_bytesT under_u8T under_strT rfl H (see_part 0 rfl SO.out.mac.symm (Nat.le_refl _) h6.out)) (hK _ _ ?_))
                    | (refine dst_is 34 rfl ?_; refine wp_run (exec_seql (u := s.nonce) (v := zs 16) rfl rfl rfl _) ?_; rw [f3.out]; refine hK _ _ ?_) | (refine dst_is 41 rfl ?_; refine wp_run (exec_seql (u := s.mac) (v := zs 16) rfl rfl rfl _) ?_; rw [f4.out]; refine hK _ _ ?_))
                  go_ret
                  exact ⟨by rw [RES.out]; rfl, H.tail⟩
              · as_aux_lemma =>
                  have RES := Lib.hid (show s.right = false by rw [hr]; simp [hle, c0, c1, c2, c3, c4])
                  have f0 := natz c0
                  have f1 := natz c1
                  have f2 := natz c2
                  have f3 := Lib.hid (show decide (s.nonce = zs 16) = true by simp [c3])
                  have f4 := Lib.hid (show decide (s.mac = zs 16) = false by simp [c4])
                  clear hr hle hl so c0 c1 c2 c3 c4
                  go_enter Tryd.func59, Tryd.ntmps59
                  go_wp2_with ((first | (with_reducible refine wpList_op rfl ?_) | (refine wpList_opif (by rfl) ?_)); intro _ hK; first
                    | (refine dst_is 1 rfl ?_; refine wp_box_sl (v := .agg s.cells.toArray) 45 _ rfl rfl H (fun B w' (H : At w0 (raw B s.cells.toArray 45 :: F) w') _ => hK _ _ ?_))
                    | (refine dst_is 5 rfl ?_; refine wp_get 33 _ rfl rfl (by kernel_rfl) (at_raw H 0 rfl h37.out) (hK _ _ ?_))
                    | (refine dst_is 7 rfl ?_; refine wp_get 33 _ rfl rfl (by kernel_rfl) (at_raw H 0 rfl h38.out) (hK _ _ ?_))
                    | (refine dst_is 10 rfl ?_; refine wp_get 4 _ rfl rfl (by kernel_rfl) (at_raw H 0 rfl h0.out) (hK _ _ ?_))
                    | (refine dst_is 13 rfl ?_; refine wp_get 43 _ rfl rfl (by kernel_rfl) (at_raw H 0 rfl h2.out) (hK _ _ ?_))
                    | (refine dst_is 17 rfl ?_; refine wp_get 26 _ rfl rfl (by kernel_rfl) (at_raw H 0 rfl h1.out) (hK _ _ ?_))
                    | (refine dst_is 21 rfl ?_; refine wp_get 27 _ rfl rfl (by kernel_rfl) (at_raw H 0 rfl h3.out) (hK _ _ ?_))
                    | (refine dst_is 26 rfl ?_; refine wp_get 30 _ rfl rfl (by kernel_rfl) (at_raw H 0 rfl h4.out) (hK _ _ ?_))
                    | (refine dst_is 32 rfl ?_; refine wp_run (exec_str_of (bs := s.nonce) rfl under_bytesT under_u8T under_strT rfl H (see_part 0 rfl SO.out.nonce.symm (Nat.le_refl _) h5.out)) (hK _ _ ?_))
                    | (refine dst_is 39 rfl ?_; refine wp_run (exec_str_of (bs := s.mac) rfl under_bytesT under_u8T under_strT rfl H (see_part 0 rfl SO.out.mac.symm (Nat.le_refl _) h6.out)) (hK _ _ ?_)))
                  refine (RZeros_c (n := 16) H (by omega)).mono ?_; rintro e w' ⟨rfl, H⟩
                  go_wp2_with ((first | (with_reducible refine wpList_op rfl ?_) | (refine wpList_opif (by rfl) ?_)); intro _ hK; first
                    | (refine dst_is 17 rfl ?_; refine wp_get 26 _ rfl rfl (by kernel_rfl) (at_raw H 0 rfl h1.out) (hK _ _ ?_))
                    | (refine dst_is 21 rfl ?_; refine wp_get 27 _ rfl rfl (by kernel_rfl) (at_raw H 0 rfl h3.out) (hK _ _ ?_))
                    | (refine dst_is 26 rfl ?_; refine wp_get 30 _ rfl rfl (by kernel_rfl) (at_raw H 0 rfl h4.out) (hK _ _ ?_))
                    | (refine dst_is 32 rfl ?_; refine wp_run (exec_str_of (bs := s.nonce) rfl under_bytesT under_u8T under_strT rfl H (see_part 0 rfl SO.out.nonce.symm (Nat.le_refl _) h5.out)) (hK _ _ ?_))
                    | (refine dst_is 39 rfl ?_; refine wp_run (exec_str_of (bs := s.mac) rfl under_bytesT under_u8T under_strT rfl H (see_part 0 rfl SO.out.mac.symm (Nat.le_refl _) h6.out)) (hK _ _ ?_))
                    | (refine dst_is 34 rfl ?_; refine wp_run (exec_seql (u := s.nonce) (v := zs 16) rfl rfl rfl _) ?_; rw [f3.out]; refine hK _ _ ?_) | (refine dst_is 41 rfl ?_; refine wp_run (exec_seql (u := s.mac) (v := zs 16) rfl rfl rfl _) ?_; rw [f4.out]; refine hK _ _ ?_))
                  go_ret
                  exact ⟨by rw [RES.out]; rfl, H.tail⟩
            · as_aux_lemma =>
                have RES := Lib.hid (show s.right = false by rw [hr]; simp [hle, c0, c1, c2, c3])
                have f0 := natz c0
                have f1 := natz c1
                have f2 := natz c2
                have f3 := Lib.hid (show decide (s.nonce = zs 16) = false by simp [c3])
                clear hr hle hl so c0 c1 c2 c3
                go_enter Tryd.func59, Tryd.ntmps59
                go_wp2_with ((first | (with_reducible refine wpList_op rfl ?_) | (refine wpList_opif (by rfl) ?_)); intro _ hK; first
                  | (refine dst_is 1 rfl ?_; refine wp_box_sl (v := .agg s.cells.toArray) 45 _ rfl rfl H (fun B w' (H : At w0 (raw B s.cells.toArray 45 :: F) w') _ => hK _ _ ?_))
                  | (refine dst_is 5 rfl ?_; refine wp_get 33 _ rfl rfl (by kernel_rfl) (at_raw H 0 rfl h37.out) (hK _ _ ?_))
                  | (refine dst_is 7 rfl ?_; refine wp_get 33 _ rfl rfl (by kernel_rfl) (at_raw H 0 rfl h38.out) (hK _ _ ?_))
                  | (refine dst_is 10 rfl ?_; refine wp_get 4 _ rfl rfl (by kernel_rfl) (at_raw H 0 rfl h0.out) (hK _ _ ?_))
                  | (refine dst_is 13 rfl ?_; refine wp_get 43 _ rfl rfl (by kernel_rfl) (at_raw H 0 rfl h2.out) (hK _ _ ?_))
                  | (refine dst_is 17 rfl ?_; refine wp_get 26 _ rfl rfl (by kernel_rfl) (at_raw H 0 rfl h1.out) (hK _ _ ?_))
                  | (refine dst_is 21 rfl ?_; refine wp_get 27 _ rfl rfl (by kernel_rfl) (at_raw H 0 rfl h3.out) (hK _ _ ?_))
                  | (refine dst_is 26 rfl ?_; refine wp_get 30 _ rfl rfl (by kernel_rfl) (at_raw H 0 rfl h4.out) (hK _ _ ?_))
                  | (refine dst_is 32 rfl ?_; refine wp_run (exec_str_of (bs := s.nonce) rfl under_bytesT under_u8T under_strT rfl H (see_part 0 rfl SO.out.nonce.symm (Nat.le_refl _) h5.out)) (hK _ _ ?_))
                  | (refine dst_is 39 rfl ?_; refine wp_run (exec_str_of (bs := s.mac) rfl under_bytesT under_u8T under_strT rfl H (see_part 0 rfl SO.out.mac.symm (Nat.le_refl _) h6.out)) (hK _ _ ?_)))
                refine (RZeros_c (n := 16) H (by omega)).mono ?_; rintro e w' ⟨rfl, H⟩
                go_wp2_with ((first | (with_reducible refine wpList_op rfl ?_) | (refine wpList_opif (by rfl) ?_)); intro _ hK; first
                  | (refine dst_is 17 rfl ?_; refine wp_get 26 _ rfl rfl (by kernel_rfl) (at_raw H 0 rfl h1.out) (hK _ _ ?_))
                  | (refine dst_is 21 rfl ?_; refine wp_get 27 _ rfl rfl (by kernel_rfl) (at_raw H 0 rfl h3.out) (hK _ _ ?_))
                  | (refine dst_is 26 rfl ?_; refine wp_get 30 _ rfl rfl (by kernel_rfl) (at_raw H 0 rfl h4.out) (hK _ _ ?_))
                  | (refine dst_is 32 rfl ?_; refine wp_run (exec_str_of (bs := s.nonce) rfl under_bytesT under_u8T under_strT rfl H (see_part 0 rfl SO.out.nonce.symm (Nat.le_refl _) h5.out)) (hK _ _ ?_))
                  | (refine dst_is 39 rfl ?_; refine wp_run (exec_str_of (bs := s.mac) rfl under_bytesT under_u8T under_strT rfl H (see_part 0 rfl SO.out.mac.symm (Nat.le_refl _) h6.out)) (hK _ _ ?_))
                  | (refine dst_is 34 rfl ?_; refine wp_run (exec_seql (u := s.nonce) (v := zs 16) rfl rfl rfl _) ?_; rw [f3.out]; refine hK _ _ ?_))
                go_ret
                exact ⟨by rw [RES.out]; rfl, H.tail⟩
          · as_aux_lemma =>
              have RES := Lib.hid (show s.right = false by rw [hr]; simp [hle, c0, c1, c2])
              have f0 := natz c0
              have f1 := natz c1
              have f2 := natnz c2
              clear hr hle hl so c0 c1 c2
              go_enter Tryd.func59, Tryd.ntmps59
              go_wp2_with ((first | (with_reducible refine wpList_op rfl ?_) | (refine wpList_opif (by rfl) ?_)); intro _ hK; first
                | (refine dst_is 1 rfl ?_; refine wp_box_sl (v := .agg s.cells.toArray) 45 _ rfl rfl H (fun B w' (H : At w0 (raw B s.cells.toArray 45 :: F) w') _ => hK _ _ ?_))
                | (refine dst_is 5 rfl ?_; refine wp_get 33 _ rfl rfl (by kernel_rfl) (at_raw H 0 rfl h37.out) (hK _ _ ?_))
                | (refine dst_is 7 rfl ?_; refine wp_get 33 _ rfl rfl (by kernel_rfl) (at_raw H 0 rfl h38.out) (hK _ _ ?_))
                | (refine dst_is 10 rfl ?_; refine wp_get 4 _ rfl rfl (by kernel_rfl) (at_raw H 0 rfl h0.out) (hK _ _ ?_))
                | (refine dst_is 13 rfl ?_; refine wp_get 43 _ rfl rfl (by kernel_rfl) (at_raw H 0 rfl h2.out) (hK _ _ ?_))
                | (refine dst_is 17 rfl ?_; refine wp_get 26 _ rfl rfl (by kernel_rfl) (at_raw H 0 rfl h1.out) (hK _ _ ?_))
                | (refine dst_is 21 rfl ?_; refine wp_get 27 _ rfl rfl (by kernel_rfl) (at_raw H 0 rfl h3.out) (hK _ _ ?_))
                | (refine dst_is 26 rfl ?_; refine wp_get 30 _ rfl rfl (by kernel_rfl) (at_raw H 0 rfl h4.out) (hK _ _ ?_))
                | (refine dst_is 32 rfl ?_; refine wp_run (exec_str_of (bs := s.nonce) rfl under_bytesT under_u8T under_strT rfl H (see_part 0 rfl SO.out.nonce.symm (Nat.le_refl _) h5.out)) (hK _ _ ?_))
                | (refine dst_is 39 rfl ?_; refine wp_run (exec_str_of (bs := s.mac) rfl under_bytesT under_u8T under_strT rfl H (see_part 0 rfl SO.out.mac.symm (Nat.le_refl _) h6.out)) (hK _ _ ?_)))
              refine (RZeros_c (n := 16) H (by omega)).mono ?_; rintro e w' ⟨rfl, H⟩
              go_wp2_with ((first | (with_reducible refine wpList_op rfl ?_) | (refine wpList_opif (by rfl) ?_)); intro _ hK; first
                | (refine dst_is 17 rfl ?_; refine wp_get 26 _ rfl rfl (by kernel_rfl) (at_raw H 0 rfl h1.out) (hK _ _ ?_))
                | (refine dst_is 21 rfl ?_; refine wp_get 27 _ rfl rfl (by kernel_rfl) (at_raw H 0 rfl h3.out) (hK _ _ ?_))
                | (refine dst_is 26 rfl ?_; refine wp_get 30 _ rfl rfl (by kernel_rfl) (at_raw H 0 rfl h4.out) (hK _ _ ?_))
                | (refine dst_is 32 rfl ?_; refine wp_run (exec_str_of (bs := s.nonce) rfl under_bytesT under_u8T under_strT rfl H (see_part 0 rfl SO.out.nonce.symm (Nat.le_refl _) h5.out)) (hK _ _ ?_))
                | (refine dst_is 39 rfl ?_; refine wp_run (exec_str_of (bs := s.mac) rfl under_bytesT under_u8T under_strT rfl H (see_part 0 rfl SO.out.mac.symm (Nat.le_refl _) h6.out)) (hK _ _ ?_))
                | fail)
              go_ret
              exact ⟨by rw [RES.out]; rfl, H.tail⟩
        · as_aux_lemma =>
            have RES := Lib.hid (show s.right = false by rw [hr]; simp [hle, c0, c1])
            have f0 := natz c0
            have f1 := natnz c1
            clear hr hle hl so c0 c1
            go_enter Tryd.func59, Tryd.ntmps59
            go_wp2_with ((first | (with_reducible refine wpList_op rfl ?_) | (refine wpList_opif (by rfl) ?_)); intro _ hK; first
              | (refine dst_is 1 rfl ?_; refine wp_box_sl (v := .agg s.cells.toArray) 45 _ rfl rfl H (fun B w' (H : At w0 (raw B s.cells.toArray 45 :: F) w') _ => hK _ _ ?_))
              | (refine dst_is 5 rfl ?_; refine wp_get 33 _ rfl rfl (by kernel_rfl) (at_raw H 0 rfl h37.out) (hK _ _ ?_))
              | (refine dst_is 7 rfl ?_; refine wp_get 33 _ rfl rfl (by kernel_rfl) (at_raw H 0 rfl h38.out) (hK _ _ ?_))
              | (refine dst_is 10 rfl ?_; refine wp_get 4 _ rfl rfl (by kernel_rfl) (at_raw H 0 rfl h0.out) (hK _ _ ?_))
              | (refine dst_is 13 rfl ?_; refine wp_get 43 _ rfl rfl (by kernel_rfl) (at_raw H 0 rfl h2.out) (hK _ _ ?_))
              | (refine dst_is 17 rfl ?_; refine wp_get 26 _ rfl rfl (by kernel_rfl) (at_raw H 0 rfl h1.out) (hK _ _ ?_))
              | (refine dst_is 21 rfl ?_; refine wp_get 27 _ rfl rfl (by kernel_rfl) (at_raw H 0 rfl h3.out) (hK _ _ ?_))
              | (refine dst_is 26 rfl ?_; refine wp_get 30 _ rfl rfl (by kernel_rfl) (at_raw H 0 rfl h4.out) (hK _ _ ?_))
              | (refine dst_is 32 rfl ?_; refine wp_run (exec_str_of (bs := s.nonce) rfl under_bytesT under_u8T under_strT rfl H (see_part 0 rfl SO.out.nonce.symm (Nat.le_refl _) h5.out)) (hK _ _ ?_))
              | (refine dst_is 39 rfl ?_; refine wp_run (exec_str_of (bs := s.mac) rfl under_bytesT under_u8T under_strT rfl H (see_part 0 rfl SO.out.mac.symm (Nat.le_refl _) h6.out)) (hK _ _ ?_)))
            refine (RZeros_c (n := 16) H (by omega)).mono ?_; rintro e w' ⟨rfl, H⟩
            go_wp2_with ((first | (with_reducible refine wpList_op rfl ?_) | (refine wpList_opif (by rfl) ?_)); intro _ hK; first
              | (refine dst_is 17 rfl ?_; refine wp_get 26 _ rfl rfl (by kernel_rfl) (at_raw H 0 rfl h1.out) (hK _ _ ?_))
              | (refine dst_is 21 rfl ?_; refine wp_get 27 _ rfl rfl (by kernel_rfl) (at_raw H 0 rfl h3.out) (hK _ _ ?_))
              | (refine dst_is 26 rfl ?_; refine wp_get 30 _ rfl rfl (by kernel_rfl) (at_raw H 0 rfl h4.out) (hK _ _ ?_))
              | (refine dst_is 32 rfl ?_; refine wp_run (exec_str_of (bs := s.nonce) rfl under_bytesT under_u8T under_strT rfl H (see_part 0 rfl SO.out.nonce.symm (Nat.le_refl _) h5.out)) (hK _ _ ?_))
              | (refine dst_is 39 rfl ?_; refine wp_run (exec_str_of (bs := s.mac) rfl under_bytesT under_u8T under_strT rfl H (see_part 0 rfl SO.out.mac.symm (Nat.le_refl _) h6.out)) (hK _ _ ?_))
              | fail)
            go_ret
            exact ⟨by rw [RES.out]; rfl, H.tail⟩
      · as_aux_lemma =>
          have RES := Lib.hid (show s.right = false by rw [hr]; simp [hle, c0])
          have f0 := natnz c0
          clear hr hle hl so c0
          go_enter Tryd.func59, Tryd.ntmps59
          go_wp2_with ((first | (with_reducible refine wpList_op rfl ?_) | (refine wpList_opif (by rfl) ?_)); intro _ hK; first
            | (refine dst_is 1 rfl ?_; refine wp_box_sl (v := .agg s.cells.toArray) 45 _ rfl rfl H (fun B w' (H : At w0 (raw B s.cells.toArray 45 :: F) w') _ => hK _ _ ?_))
            | (refine dst_is 5 rfl ?_; refine wp_get 33 _ rfl rfl (by kernel_rfl) (at_raw H 0 rfl h37.out) (hK _ _ ?_))
            | (refine dst_is 7 rfl ?_; refine wp_get 33 _ rfl rfl (by kernel_rfl) (at_raw H 0 rfl h38.out) (hK _ _ ?_))
            | (refine dst_is 10 rfl ?_; refine wp_get 4 _ rfl rfl (by kernel_rfl) (at_raw H 0 rfl h0.out) (hK _ _ ?_))
            | (refine dst_is 13 rfl ?_; refine wp_get 43 _ rfl rfl (by kernel_rfl) (at_raw H 0 rfl h2.out) (hK _ _ ?_))
            | (refine dst_is 17 rfl ?_; refine wp_get 26 _ rfl rfl (by kernel_rfl) (at_raw H 0 rfl h1.out) (hK _ _ ?_))
            | (refine dst_is 21 rfl ?_; refine wp_get 27 _ rfl rfl (by kernel_rfl) (at_raw H 0 rfl h3.out) (hK _ _ ?_))
            | (refine dst_is 26 rfl ?_; refine wp_get 30 _ rfl rfl (by kernel_rfl) (at_raw H 0 rfl h4.out) (hK _ _ ?_))
            | (refine dst_is 32 rfl ?_; refine wp_run (exec_str_of (bs := s.nonce) rfl under_bytesT under_u8T under_strT rfl H (see_part 0 rfl SO.out.nonce.symm (Nat.le_refl _) h5.out)) (hK _ _ ?_))
            | (refine dst_is 39 rfl ?_; refine wp_run (exec_str_of (bs := s.mac) rfl under_bytesT under_u8T under_strT rfl H (see_part 0 rfl SO.out.mac.symm (Nat.le_refl _) h6.out)) (hK _ _ ?_)))
          refine (RZeros_c (n := 16) H (by omega)).mono ?_; rintro e w' ⟨rfl, H⟩
          go_wp2_with ((first | (with_reducible refine wpList_op rfl ?_) | (refine wpList_opif (by rfl) ?_)); intro _ hK; first
            | (refine dst_is 17 rfl ?_; refine wp_get 26 _ rfl rfl (by kernel_rfl) (at_raw H 0 rfl h1.out) (hK _ _ ?_))
            | (refine dst_is 21 rfl ?_; refine wp_get 27 _ rfl rfl (by kernel_rfl) (at_raw H 0 rfl h3.out) (hK _ _ ?_))
            | (refine dst_is 26 rfl ?_; refine wp_get 30 _ rfl rfl (by kernel_rfl) (at_raw H 0 rfl h4.out) (hK _ _ ?_))
            | (refine dst_is 32 rfl ?_; refine wp_run (exec_str_of (bs := s.nonce) rfl under_bytesT under_u8T under_strT rfl H (see_part 0 rfl SO.out.nonce.symm (Nat.le_refl _) h5.out)) (hK _ _ ?_))
            | (refine dst_is 39 rfl ?_; refine wp_run (exec_str_of (bs := s.mac) rfl under_bytesT under_u8T under_strT rfl H (see_part 0 rfl SO.out.mac.symm (Nat.le_refl _) h6.out)) (hK _ _ ?_))
            | fail)
          go_ret
          exact ⟨by rw [RES.out]; rfl, H.tail⟩
    · have hle' : (s.hi : Int) < (s.lo : Int) := by omega
      have RES := Lib.hid (show s.right = false by rw [hr]; simp [hle])
      clear hr hle hl so
      go_enter Tryd.func59, Tryd.ntmps59
      go_wp2_with ((first | (with_reducible refine wpList_op rfl ?_) | (refine wpList_opif (by rfl) ?_)); intro _ hK; first
        | (refine dst_is 1 rfl ?_; refine wp_box_sl (v := .agg s.cells.toArray) 45 _ rfl rfl H (fun B w' (H : At w0 (raw B s.cells.toArray 45 :: F) w') _ => hK _ _ ?_))
        | (refine dst_is 5 rfl ?_; refine wp_get 33 _ rfl rfl (by kernel_rfl) (at_raw H 0 rfl h37.out) (hK _ _ ?_))
        | (refine dst_is 7 rfl ?_; refine wp_get 33 _ rfl rfl (by kernel_rfl) (at_raw H 0 rfl h38.out) (hK _ _ ?_))
        | (refine dst_is 10 rfl ?_; refine wp_get 4 _ rfl rfl (by kernel_rfl) (at_raw H 0 rfl h0.out) (hK _ _ ?_))
        | (refine dst_is 13 rfl ?_; refine wp_get 43 _ rfl rfl (by kernel_rfl) (at_raw H 0 rfl h2.out) (hK _ _ ?_))
        | (refine dst_is 17 rfl ?_; refine wp_get 26 _ rfl rfl (by kernel_rfl) (at_raw H 0 rfl h1.out) (hK _ _ ?_))
        | (refine dst_is 21 rfl ?_; refine wp_get 27 _ rfl rfl (by kernel_rfl) (at_raw H 0 rfl h3.out) (hK _ _ ?_))
        | (refine dst_is 26 rfl ?_; refine wp_get 30 _ rfl rfl (by kernel_rfl) (at_raw H 0 rfl h4.out) (hK _ _ ?_))
        | (refine dst_is 32 rfl ?_; refine wp_run (exec_str_of (bs := s.nonce) rfl under_bytesT under_u8T under_strT rfl H (see_part 0 rfl SO.out.nonce.symm (Nat.le_refl _) h5.out)) (hK _ _ ?_))
        | (refine dst_is 39 rfl ?_; refine wp_run (exec_str_of (bs := s.mac) rfl under_bytesT under_u8T under_strT rfl H (see_part 0 rfl SO.out.mac.symm (Nat.le_refl _) h6.out)) (hK _ _ ?_)))
      go_ret
      exact ⟨by rw [RES.out]; rfl, H.tail⟩
theorem slot_part5 {s : SlotD} (so : s.ok) : (s.cells.drop 5).take 16 = v8 s.nonce := SlotD.cells_nonce so.nonce
set_option maxRecDepth 10000 in
set_option maxHeartbeats 2000000 in
theorem RWrite_c {w0 w : World} {F : List SP} {s : SlotD} (H : At w0 F w) (so : s.ok) : Calls Tryd.prog 36 #[.agg s.cells.toArray] w fun r w' => r = .returned (.string (sB s.bytes)) ∧ At w0 F w' := by
  have SO := Lib.hid so
  have h37 := Lib.hid (show s.cells[37]? = some (.int .u64 (s.lo : Int)) from SlotD.cells_post so.nonce so.mac 0)
  have h38 := Lib.hid (show s.cells[38]? = some (.int .u64 (s.hi : Int)) from SlotD.cells_post so.nonce so.mac 1)
  have h39 := Lib.hid (show s.cells[39]? = some (.int .u32 (s.delay : Int)) from SlotD.cells_post so.nonce so.mac 2)
  have h0 := Lib.hid (show s.cells[0]? = some (.bool s.last) from rfl)
  have h1 := Lib.hid (show s.cells[1]? = some (.int .u16 (s.next : Int)) from rfl)
  have h2 := Lib.hid (show s.cells[2]? = some (.int .u16 (s.box : Int)) from rfl)
  have h3 := Lib.hid (show s.cells[3]? = some (.int .u16 (s.who : Int)) from rfl)
  have h4 := Lib.hid (show s.cells[4]? = some (.int .u32 (s.epoch : Int)) from rfl)
  have h5 := Lib.hid (SlotD.cells_nonce so.nonce)
  have h6 := Lib.hid (SlotD.cells_mac so.nonce so.mac)
  have e1 : IntKind.u64.wrap (s.next : Int) = (s.next : Int) := by rw [IntKind.wrap_u64]; have := so.next; omega
  have e2 : IntKind.u64.wrap (s.box : Int) = (s.box : Int) := by rw [IntKind.wrap_u64]; have := so.box; omega
  have e3 : IntKind.u64.wrap (s.who : Int) = (s.who : Int) := by rw [IntKind.wrap_u64]; have := so.who; omega
  have e4 : IntKind.u64.wrap (s.epoch : Int) = (s.epoch : Int) := by rw [IntKind.wrap_u64]; have := so.epoch; omega
  have e5 : IntKind.u64.wrap (s.delay : Int) = (s.delay : Int) := by rw [IntKind.wrap_u64]; have := so.delay; omega
  clear so
  go_enter Tryd.func36, Tryd.ntmps36
  go_wp2_with ((with_reducible refine wpList_op rfl ?_); intro _ hK; first
    | (refine dst_is 1 rfl ?_; refine wp_box_sl (v := .agg s.cells.toArray) 45 _ rfl rfl H (fun B w' (H : At w0 (raw B s.cells.toArray 45 :: F) w') _ => hK _ _ (Stop.go ?_))))
  refine Stop.un ?_
  go_wp2_with fail
  refine wpS_begin [] (raw B s.cells.toArray 45 :: F) (.fr 0 (.fr 1 (.tk 2 (.fr 3 (.fr 4 (.fr 5 (.nx 6 .nil))))))) rfl (by kernel_rfl) (by kernel_rfl) H ?_
  clear H
  intro ops hOps
  refine wpS_fcall hOps (v := ?vOp3061) rfl (fun _ _ _ h => h) (GY.call rfl _ _ _ rfl Tryd.func55 rfl (by kernel_rfl) ?yOp3061) ?_
  case yOp3061 =>
    intro L w f H
    simp only [List.map_toArray, List.map_cons, List.map_nil, nrm]
    exact (RText_c (n := 0) (k := 1) H (by omega) (by omega))
  simp only [nrm]
  refine wpS_free hOps (v := ?vOp3063) rfl (fun _ _ _ h => h) (yl rfl ?yOp3063) ?_
  case yOp3063 => (intro w hw; go_simp; first | done | rfl)
  simp only [nrm]
  refine wpS_take hOps rfl (fun _ _ _ h => h) (by first | exact Imp.refl _ | exact (Imp.refl _).more _ | exact ((Imp.refl _).more _).more _ | exact seps_pick _ _ (by repeat (first | exact List.Sublist.refl _ | exact List.nil_sublist _ | apply List.Sublist.cons_cons | apply List.Sublist.cons))) (GY.of_yields (yl_get rfl _ _ rfl rfl (by kernel_rfl) (fun w hw => at_raw hw 0 rfl h1.out))) ?_
  simp only [nrm]
  refine wpS_free hOps (v := ?vOp3067) rfl (fun _ _ _ h => h) (yl rfl ?yOp3067) ?_
  case yOp3067 => (intro w hw; go_simp; first | done | rfl)
  simp only [nrm]
  refine wpS_fcall hOps (v := ?vOp3069) rfl (fun _ _ _ h => h) (GY.call rfl _ _ _ rfl Tryd.func55 rfl (by kernel_rfl) ?yOp3069) ?_
  case yOp3069 =>
    intro L w f H
    simp only [List.map_toArray, List.map_cons, List.map_nil, nrm]
    exact (RText_c (n := s.next) (k := 2) H (by have := SO.out.next; omega) (by omega))
  simp only [nrm]
  refine wpS_free hOps rfl (fun _ _ _ h => h) (yl rfl (fun w _ => exec_sadd (u := beN 1 0) (v := beN 2 s.next) rfl rfl rfl (by rw [beN_length, beN_length]; omega) w)) ?_
  simp only [nrm]
  refine wpS_next hOps rfl rfl ?_
  intro w H K hK
  refine wp_run rfl ?_
  refine hK _ _ _ (.inr (.inl (Imp.refl _))) H ?_
  clear hK K H
  try simp only [nrm]
  refine wpS_end (fun w H => ?_)
  clear hOps ops
  go_upto_if 11 with ((with_reducible refine wpList_op rfl ?_); intro _ hK; first
    | (refine dst_is 11 rfl ?_; refine wp_get 4 _ rfl rfl (by kernel_rfl) (at_raw H 0 rfl h0.out) (hK _ _ ?_)))
  simp only [nrm]
  go_cut [3] from 4 to 18 (fun v wr => v = .string (sB (beN 1 s.kind ++ beN 2 s.to)) ∧ At w0 (raw B s.cells.toArray 45 :: F) wr)
  case first =>
    cases hl : s.last with
    | false =>
      have hk := Lib.hid (show beN 1 0 ++ beN 2 s.next = beN 1 s.kind ++ beN 2 s.to by unfold SlotD.kind SlotD.to; rw [hl]; rfl)
      rw [hk.out]
      clear hl
      go_wp2_with fail
      go_meet
      case rel => exact ⟨rfl, H⟩
    | true =>
      have hk := Lib.hid (show beN 1 1 ++ beN 2 s.box = beN 1 s.kind ++ beN 2 s.to by unfold SlotD.kind SlotD.to; rw [hl]; rfl)
      clear hl
      go_wp2_with fail
      refine wpS_begin [] (raw B s.cells.toArray 45 :: F) (.fr 0 (.fr 1 (.tk 2 (.fr 3 (.fr 4 (.fr 5 (.nx 6 .nil))))))) rfl (by kernel_rfl) (by kernel_rfl) H ?_
      clear H
      intro ops hOps
      refine wpS_fcall hOps (v := ?vOp3077) rfl (fun _ _ _ h => h) (GY.call rfl _ _ _ rfl Tryd.func55 rfl (by kernel_rfl) ?yOp3077) ?_
      case yOp3077 =>
        intro L w f H
        simp only [List.map_toArray, List.map_cons, List.map_nil, nrm]
        exact (RText_c (n := 1) (k := 1) H (by omega) (by omega))
      simp only [nrm]
      refine wpS_free hOps (v := ?vOp3079) rfl (fun _ _ _ h => h) (yl rfl ?yOp3079) ?_
      case yOp3079 => (intro w hw; go_simp; first | done | rfl)
      simp only [nrm]
      refine wpS_take hOps rfl (fun _ _ _ h => h) (by first | exact Imp.refl _ | exact (Imp.refl _).more _ | exact ((Imp.refl _).more _).more _ | exact seps_pick _ _ (by repeat (first | exact List.Sublist.refl _ | exact List.nil_sublist _ | apply List.Sublist.cons_cons | apply List.Sublist.cons))) (GY.of_yields (yl_get rfl _ _ rfl rfl (by kernel_rfl) (fun w hw => at_raw hw 0 rfl h2.out))) ?_
      simp only [nrm]
      refine wpS_free hOps (v := ?vOp3083) rfl (fun _ _ _ h => h) (yl rfl ?yOp3083) ?_
      case yOp3083 => (intro w hw; go_simp; first | done | rfl)
      simp only [nrm]
      refine wpS_fcall hOps (v := ?vOp3085) rfl (fun _ _ _ h => h) (GY.call rfl _ _ _ rfl Tryd.func55 rfl (by kernel_rfl) ?yOp3085) ?_
      case yOp3085 =>
        intro L w f H
        simp only [List.map_toArray, List.map_cons, List.map_nil, nrm]
        exact (RText_c (n := s.box) (k := 2) H (by have := SO.out.box; omega) (by omega))
      simp only [nrm]
      refine wpS_free hOps rfl (fun _ _ _ h => h) (yl rfl (fun w _ => exec_sadd (u := beN 1 1) (v := beN 2 s.box) rfl rfl rfl (by rw [beN_length, beN_length]; omega) w)) ?_
      simp only [nrm]
      refine wpS_next hOps rfl rfl ?_
      intro w H K hK
      refine wp_run rfl ?_
      refine hK _ _ _ (.inr (.inl (Imp.refl _))) H ?_
      clear hK K H
      try simp only [nrm]
      refine wpS_end (fun w H => ?_)
      clear hOps ops
      rw [hk.out]
      go_wp2_with fail
      go_meet
      case rel => exact ⟨rfl, H⟩
  case rest =>
    obtain ⟨rfl, H⟩ := hcut
    obtain ⟨X, hX⟩ : ∃ X, X = beN 1 s.kind ++ beN 2 s.to := ⟨_, rfl⟩
    have hXl := Lib.hid (show X.length = 3 by rw [hX, List.length_append, beN_length, beN_length])
    have hres := Lib.hid (show X ++ beN 8 s.lo ++ beN 8 s.hi ++ beN 4 s.delay ++ beN 2 s.who ++ beN 4 s.epoch ++ s.nonce ++ s.mac ++ zs 3 = s.bytes by rw [hX]; rfl)
    rw [← hX]
    clear hX
    go_wp2_with fail
    refine wpS_begin [] (raw B s.cells.toArray 45 :: F) (.fr 0 (.fr 1 (.tk 2 (.fr 3 (.fr 4 (.fr 5 (.tk 6 (.fr 7 (.fr 8 (.fr 9 (.tk 10 (.fr 11 (.fr 12 (.fr 13 (.nx 14 .nil))))))))))))))) rfl (by kernel_rfl) (by kernel_rfl) H ?_
    clear H
    intro ops hOps
    refine wpS_free hOps rfl (fun _ _ _ h => h) (yl_move rfl _ rfl) ?_
    simp only [nrm]
    refine wpS_free hOps (v := ?vOp3096) rfl (fun _ _ _ h => h) (yl rfl ?yOp3096) ?_
    case yOp3096 => (intro w hw; go_simp; first | done | rfl)
    simp only [nrm]
    refine wpS_take hOps rfl (fun _ _ _ h => h) (by first | exact Imp.refl _ | exact (Imp.refl _).more _ | exact ((Imp.refl _).more _).more _ | exact seps_pick _ _ (by repeat (first | exact List.Sublist.refl _ | exact List.nil_sublist _ | apply List.Sublist.cons_cons | apply List.Sublist.cons))) (GY.of_yields (yl_get rfl _ _ rfl rfl (by kernel_rfl) (fun w hw => at_raw hw 0 rfl h37.out))) ?_
    simp only [nrm]
    refine wpS_fcall hOps (v := ?vOp3100) rfl (fun _ _ _ h => h) (GY.call rfl _ _ _ rfl Tryd.func55 rfl (by kernel_rfl) ?yOp3100) ?_
    case yOp3100 =>
      intro L w f H
      simp only [List.map_toArray, List.map_cons, List.map_nil, nrm]
      exact (RText_c (n := s.lo) (k := 8) H (by have := SO.out.lo; omega) (by omega))
    simp only [nrm]
    refine wpS_free hOps rfl (fun _ _ _ h => h) (yl rfl (fun w _ => exec_sadd (u := X) (v := beN 8 s.lo) rfl rfl rfl (by rw [beN_length, hXl.out]; omega) w)) ?_
    simp only [nrm]
    refine wpS_free hOps (v := ?vOp3104) rfl (fun _ _ _ h => h) (yl rfl ?yOp3104) ?_
    case yOp3104 => (intro w hw; go_simp; first | done | rfl)
    simp only [nrm]
    refine wpS_take hOps rfl (fun _ _ _ h => h) (by first | exact Imp.refl _ | exact (Imp.refl _).more _ | exact ((Imp.refl _).more _).more _ | exact seps_pick _ _ (by repeat (first | exact List.Sublist.refl _ | exact List.nil_sublist _ | apply List.Sublist.cons_cons | apply List.Sublist.cons))) (GY.of_yields (yl_get rfl _ _ rfl rfl (by kernel_rfl) (fun w hw => at_raw hw 0 rfl h38.out))) ?_
    simp only [nrm]
    refine wpS_fcall hOps (v := ?vOp3108) rfl (fun _ _ _ h => h) (GY.call rfl _ _ _ rfl Tryd.func55 rfl (by kernel_rfl) ?yOp3108) ?_
    case yOp3108 =>
      intro L w f H
      simp only [List.map_toArray, List.map_cons, List.map_nil, nrm]
      exact (RText_c (n := s.hi) (k := 8) H (by have := SO.out.hi; omega) (by omega))
    simp only [nrm]
    refine wpS_free hOps rfl (fun _ _ _ h => h) (yl rfl (fun w _ => exec_sadd (u := X ++ beN 8 s.lo) (v := beN 8 s.hi) rfl rfl rfl (by simp only [List.length_append, beN_length, hXl.out]; omega) w)) ?_
    simp only [nrm]
    refine wpS_free hOps (v := ?vOp3112) rfl (fun _ _ _ h => h) (yl rfl ?yOp3112) ?_
    case yOp3112 => (intro w hw; go_simp; first | done | rfl)
    simp only [nrm]
    refine wpS_take hOps rfl (fun _ _ _ h => h) (by first | exact Imp.refl _ | exact (Imp.refl _).more _ | exact ((Imp.refl _).more _).more _ | exact seps_pick _ _ (by repeat (first | exact List.Sublist.refl _ | exact List.nil_sublist _ | apply List.Sublist.cons_cons | apply List.Sublist.cons))) (GY.of_yields (yl_get rfl _ _ rfl rfl (by kernel_rfl) (fun w hw => at_raw hw 0 rfl h39.out))) ?_
    simp only [nrm]
    refine wpS_free hOps (v := ?vOp3116) rfl (fun _ _ _ h => h) (yl rfl ?yOp3116) ?_
    case yOp3116 => (intro w hw; go_simp; first | done | rfl)
    simp only [nrm]
    refine wpS_fcall hOps (v := ?vOp3118) rfl (fun _ _ _ h => h) (GY.call rfl _ _ _ rfl Tryd.func55 rfl (by kernel_rfl) ?yOp3118) ?_
    case yOp3118 =>
      intro L w f H
      simp only [List.map_toArray, List.map_cons, List.map_nil, nrm]
      exact (RText_c (n := s.delay) (k := 4) H (by have := SO.out.delay; omega) (by omega))
    simp only [nrm]
    refine wpS_free hOps rfl (fun _ _ _ h => h) (yl rfl (fun w _ => exec_sadd (u := X ++ beN 8 s.lo ++ beN 8 s.hi) (v := beN 4 s.delay) rfl rfl rfl (by simp only [List.length_append, beN_length, hXl.out]; omega) w)) ?_
    simp only [nrm]
    refine wpS_next hOps rfl rfl ?_
    intro w H K hK
    refine wp_run rfl ?_
    refine hK _ _ _ (.inr (.inl (Imp.refl _))) H ?_
    clear hK K H
    try simp only [nrm]
    refine wpS_end (fun w H => ?_)
    clear hOps ops
    obtain ⟨Y, hY⟩ : ∃ Y, Y = X ++ beN 8 s.lo ++ beN 8 s.hi ++ beN 4 s.delay := ⟨_, rfl⟩
    have hYl := Lib.hid (show Y.length = 23 by rw [hY]; simp only [List.length_append, beN_length, hXl.out])
    have HY := Lib.hid hY
    rw [← hY]
    clear hY
    go_wp2_with fail
    refine wpS_begin [] (raw B s.cells.toArray 45 :: F) (.fr 0 (.fr 1 (.tk 2 (.fr 3 (.fr 4 (.fr 5 (.fr 6 (.tk 7 (.fr 8 (.fr 9 (.fr 10 (.fr 11 (.fr 12 (.tk 13 (.fr 14 (.fr 15 (.fr 16 (.tk 17 (.fr 18 (.fr 19 (.fr 20 (.nx 21 .nil)))))))))))))))))))))) rfl (by kernel_rfl) (by kernel_rfl) H ?_
    clear H
    intro ops hOps
    refine wpS_free hOps rfl (fun _ _ _ h => h) (yl_move rfl _ rfl) ?_
    simp only [nrm]
    refine wpS_free hOps (v := ?vOp3129) rfl (fun _ _ _ h => h) (yl rfl ?yOp3129) ?_
    case yOp3129 => (intro w hw; go_simp; first | done | rfl)
    simp only [nrm]
    refine wpS_take hOps rfl (fun _ _ _ h => h) (by first | exact Imp.refl _ | exact (Imp.refl _).more _ | exact ((Imp.refl _).more _).more _ | exact seps_pick _ _ (by repeat (first | exact List.Sublist.refl _ | exact List.nil_sublist _ | apply List.Sublist.cons_cons | apply List.Sublist.cons))) (GY.of_yields (yl_get rfl _ _ rfl rfl (by kernel_rfl) (fun w hw => at_raw hw 0 rfl h3.out))) ?_
    simp only [nrm]
    refine wpS_free hOps (v := ?vOp3133) rfl (fun _ _ _ h => h) (yl rfl ?yOp3133) ?_
    case yOp3133 => (intro w hw; go_simp; first | done | rfl)
    simp only [nrm]
    refine wpS_fcall hOps (v := ?vOp3135) rfl (fun _ _ _ h => h) (GY.call rfl _ _ _ rfl Tryd.func55 rfl (by kernel_rfl) ?yOp3135) ?_
    case yOp3135 =>
      intro L w f H
      simp only [List.map_toArray, List.map_cons, List.map_nil, nrm]
      exact (RText_c (n := s.who) (k := 2) H (by have := SO.out.who; omega) (by omega))
    simp only [nrm]
    refine wpS_free hOps rfl (fun _ _ _ h => h) (yl rfl (fun w _ => exec_sadd (u := Y) (v := beN 2 s.who) rfl rfl rfl (by simp only [List.length_append, beN_length, hYl.out]; omega) w)) ?_
    simp only [nrm]
    refine wpS_free hOps (v := ?vOp3139) rfl (fun _ _ _ h => h) (yl rfl ?yOp3139) ?_
    case yOp3139 => (intro w hw; go_simp; first | done | rfl)
    simp only [nrm]
    refine wpS_take hOps rfl (fun _ _ _ h => h) (by first | exact Imp.refl _ | exact (Imp.refl _).more _ | exact ((Imp.refl _).more _).more _ | exact seps_pick _ _ (by repeat (first | exact List.Sublist.refl _ | exact List.nil_sublist _ | apply List.Sublist.cons_cons | apply List.Sublist.cons))) (GY.of_yields (yl_get rfl _ _ rfl rfl (by kernel_rfl) (fun w hw => at_raw hw 0 rfl h4.out))) ?_
    simp only [nrm]
    refine wpS_free hOps (v := ?vOp3143) rfl (fun _ _ _ h => h) (yl rfl ?yOp3143) ?_
    case yOp3143 => (intro w hw; go_simp; first | done | rfl)
    simp only [nrm]
    refine wpS_fcall hOps (v := ?vOp3145) rfl (fun _ _ _ h => h) (GY.call rfl _ _ _ rfl Tryd.func55 rfl (by kernel_rfl) ?yOp3145) ?_
    case yOp3145 =>
      intro L w f H
      simp only [List.map_toArray, List.map_cons, List.map_nil, nrm]
      exact (RText_c (n := s.epoch) (k := 4) H (by have := SO.out.epoch; omega) (by omega))
    simp only [nrm]
    refine wpS_free hOps rfl (fun _ _ _ h => h) (yl rfl (fun w _ => exec_sadd (u := Y ++ beN 2 s.who) (v := beN 4 s.epoch) rfl rfl rfl (by simp only [List.length_append, beN_length, hYl.out]; omega) w)) ?_
    simp only [nrm]
    refine wpS_free hOps (v := ?vOp3149) rfl (fun _ _ _ h => h) (yl rfl ?yOp3149) ?_
    case yOp3149 => (intro w hw; go_simp; first | done | rfl)
    simp only [nrm]
    refine wpS_free hOps (v := ?vOp3151) rfl (fun _ _ _ h => h) (yl rfl ?yOp3151) ?_
    case yOp3151 => (intro w hw; go_simp; first | done | rfl)
    simp only [nrm]
    refine wpS_take hOps rfl (fun _ _ _ h => h) (by first | exact Imp.refl _ | exact (Imp.refl _).more _ | exact ((Imp.refl _).more _).more _ | exact seps_pick _ _ (by repeat (first | exact List.Sublist.refl _ | exact List.nil_sublist _ | apply List.Sublist.cons_cons | apply List.Sublist.cons))) (GY.of_yields (yl rfl (fun w hw => exec_str_of (bs := s.nonce) rfl under_bytesT under_u8T under_strT rfl hw (see_part 0 rfl SO.out.nonce.symm (Nat.le_refl _) h5.out)))) ?_
    simp only [nrm]
    refine wpS_free hOps rfl (fun _ _ _ h => h) (yl rfl (fun w _ => exec_sadd (u := Y ++ beN 2 s.who ++ beN 4 s.epoch) (v := s.nonce) rfl rfl rfl (by simp only [List.length_append, beN_length, hYl.out, SO.out.nonce]; omega) w)) ?_
    simp only [nrm]
    refine wpS_free hOps (v := ?vOp3157) rfl (fun _ _ _ h => h) (yl rfl ?yOp3157) ?_
    case yOp3157 => (intro w hw; go_simp; first | done | rfl)
    simp only [nrm]
    refine wpS_free hOps (v := ?vOp3159) rfl (fun _ _ _ h => h) (yl rfl ?yOp3159) ?_
    case yOp3159 => (intro w hw; go_simp; first | done | rfl)
    simp only [nrm]
    refine wpS_take hOps rfl (fun _ _ _ h => h) (by first | exact Imp.refl _ | exact (Imp.refl _).more _ | exact ((Imp.refl _).more _).more _ | exact seps_pick _ _ (by repeat (first | exact List.Sublist.refl _ | exact List.nil_sublist _ | apply List.Sublist.cons_cons | apply List.Sublist.cons))) (GY.of_yields (yl rfl (fun w hw => exec_str_of (bs := s.mac) rfl under_bytesT under_u8T under_strT rfl hw (see_part 0 rfl SO.out.mac.symm (Nat.le_refl _) h6.out)))) ?_
    simp only [nrm]
    refine wpS_free hOps rfl (fun _ _ _ h => h) (yl rfl (fun w _ => exec_sadd (u := Y ++ beN 2 s.who ++ beN 4 s.epoch ++ s.nonce) (v := s.mac) rfl rfl rfl (by simp only [List.length_append, beN_length, hYl.out, SO.out.nonce, SO.out.mac]; omega) w)) ?_
    simp only [nrm]
    refine wpS_fcall hOps (v := ?vOp3165) rfl (fun _ _ _ h => h) (GY.call rfl _ _ _ rfl Tryd.func56 rfl (by kernel_rfl) ?yOp3165) ?_
    case yOp3165 =>
      intro L w f H
      simp only [List.map_toArray, List.map_cons, List.map_nil, nrm]
      exact (RZeros_c (n := 3) H (by omega))
    simp only [nrm]
    refine wpS_free hOps rfl (fun _ _ _ h => h) (yl rfl (fun w _ => exec_sadd (u := Y ++ beN 2 s.who ++ beN 4 s.epoch ++ s.nonce ++ s.mac) (v := zs 3) rfl rfl rfl (by simp only [List.length_append, beN_length, hYl.out, SO.out.nonce, SO.out.mac, zs_length]; omega) w)) ?_
    simp only [nrm]
    refine wpS_next hOps rfl rfl ?_
    intro w H K hK
    refine wp_run rfl ?_
    refine hK _ _ _ (.inr (.inl (Imp.refl _))) H ?_
    clear hK K H
    try simp only [nrm]
    refine wpS_end (fun w H => ?_)
    clear hOps ops
    go_wp2_with fail
    go_ret
    exact ⟨by rw [← hres.out, HY.out]; rfl, H.tail⟩
theorem run_spart2 {P : Program} {t : TypeId} (ht : P.underlying t = some .string) {l : List (BitVec 8)} {i j : Nat} {I J : Int} (hI : I = (i : Int)) (hJ : J = (j : Int)) (h1 : i ≤ j) (h2 : j ≤ l.length) (w : World) : (Instr.slice t (.string (sB l)) (some (.int .i64 I)) (some (.int .i64 J)) none).run P w = .ok (.string (sB ((l.drop i).take (j - i)))) w := by
  subst hI hJ
  rw [run_spart ht h1 h2, List.drop_take]
theorem run_sfrom {P : Program} {t : TypeId} (ht : P.underlying t = some .string) {l : List (BitVec 8)} {i : Nat} {I : Int} (hI : I = (i : Int)) (h1 : i ≤ l.length) (w : World) : (Instr.slice t (.string (sB l)) (some (.int .i64 I)) none none).run P w = .ok (.string (sB (l.drop i))) w := by
  subst hI
  have h := run_slice_string_l (P := P) w t (sB l) ht .i64 (i : Int) (by omega) (by rw [sB_size]; omega)
  rw [h, sB_size]
  simp [sB_extract _ _ _ (Nat.le_refl _)]
section
variable {P : Program} {ρ : Operand → Value} {o : Oper} {t yt : TypeId} {x y : Operand} {u v : List (BitVec 8)}
theorem exec_sneq_t (ho : o.op = .binOp .neq t x y yt) (hx : ρ x = .string (sB u)) (hy : ρ y = .string (sB v)) (h : u ≠ v) (w : World) : (execOp ρ o).run P w = .ok (.value (.bool true)) w := by
  rw [exec_sneq ho hx hy w]; simp [h]
theorem exec_sneq_f (ho : o.op = .binOp .neq t x y yt) (hx : ρ x = .string (sB u)) (hy : ρ y = .string (sB v)) (h : u = v) (w : World) : (execOp ρ o).run P w = .ok (.value (.bool false)) w := by
  rw [exec_sneq ho hx hy w]; simp [h]
theorem exec_seql_t (ho : o.op = .binOp .eql t x y yt) (hx : ρ x = .string (sB u)) (hy : ρ y = .string (sB v)) (h : u = v) (w : World) : (execOp ρ o).run P w = .ok (.value (.bool true)) w := by
  rw [exec_seql ho hx hy w]; simp [h]
theorem exec_seql_f (ho : o.op = .binOp .eql t x y yt) (hx : ρ x = .string (sB u)) (hy : ρ y = .string (sB v)) (h : u ≠ v) (w : World) : (execOp ρ o).run P w = .ok (.value (.bool false)) w := by
  rw [exec_seql ho hx hy w]; simp [h]
end
theorem buildL_app {places : List (Nat × Nat)} : ∀ (ps qs : List (Nat × List Value)) (cs : List Value), buildL places cs (ps ++ qs) = (buildL places cs ps).bind fun c => buildL places c qs
  | [], qs, cs => rfl
  | (i, v) :: ps, qs, cs => by
    simp only [List.cons_append, buildL]
    split
    · rfl
    · split
      · exact buildL_app ps qs _
      · rfl
theorem slot_built {l : Bool} {who epoch lo hi delay : Nat} {nonce mac : List (BitVec 8)} (hn : nonce.length = 16) (hm : mac.length = 16) :
    buildL slotPlaces SlotD.zero.cells [(0, [.bool l]), (7, [.int .u64 (lo : Int)]), (8, [.int .u64 (hi : Int)]), (9, [.int .u32 (delay : Int)]), (3, [.int .u16 (who : Int)]), (4, [.int .u32 (epoch : Int)]), (5, v8 nonce), (6, v8 mac)] = some (SlotD.mk l 0 0 who epoch nonce mac lo hi delay).cells := by
  have e1 : buildL slotPlaces SlotD.zero.cells [(0, [.bool l]), (7, [.int .u64 (lo : Int)]), (8, [.int .u64 (hi : Int)]), (9, [.int .u32 (delay : Int)]), (3, [.int .u16 (who : Int)]), (4, [.int .u32 (epoch : Int)])] = some (SlotD.mk l 0 0 who epoch (zs 16) (zs 16) lo hi delay).cells := rfl
  have hz := zs_length 16
  have l1 := SlotD.cells_length (s := SlotD.mk l 0 0 who epoch (zs 16) (zs 16) lo hi delay) hz hz
  have l2 := SlotD.cells_length (s := SlotD.mk l 0 0 who epoch nonce (zs 16) lo hi delay) hn hz
  have p1 := SlotD.put_nonce (SlotD.mk l 0 0 who epoch (zs 16) (zs 16) lo hi delay) hz nonce hn
  have p2 := SlotD.put_mac (SlotD.mk l 0 0 who epoch nonce (zs 16) lo hi delay) hn hz mac hm
  rw [show ([(0, [.bool l]), (7, [.int .u64 (lo : Int)]), (8, [.int .u64 (hi : Int)]), (9, [.int .u32 (delay : Int)]), (3, [.int .u16 (who : Int)]), (4, [.int .u32 (epoch : Int)]), (5, v8 nonce), (6, v8 mac)] : List (Nat × List Value)) = [(0, [.bool l]), (7, [.int .u64 (lo : Int)]), (8, [.int .u64 (hi : Int)]), (9, [.int .u32 (delay : Int)]), (3, [.int .u16 (who : Int)]), (4, [.int .u32 (epoch : Int)])] ++ [(5, v8 nonce), (6, v8 mac)] from rfl, buildL_app, e1]
  simp only [Option.bind_some, buildL, slotPlaces, List.getElem?_cons_succ, List.getElem?_cons_zero]
  rw [if_pos ⟨by rw [v8_length, hn], by rw [l1, v8_length, hn]; omega⟩, p1, if_pos ⟨by rw [v8_length, hm], by rw [l2, v8_length, hm]; omega⟩, p2]
theorem dec_res {b : List (BitVec 8)} (hb : b.length = 64) : ((gb b 0).toNat ≤ 1 ∧ b.drop 61 = zs 3 ∧ (SlotD.readD b).right = true → DecS b = SlotD.readD b ∧ DecE b = 0) ∧ (¬ ((gb b 0).toNat ≤ 1 ∧ b.drop 61 = zs 3 ∧ (SlotD.readD b).right = true) → DecS b = SlotD.zero ∧ DecE b = 3) := by
  have hd : SlotD.dec b = if (SlotD.readD b).right ∧ (SlotD.readD b).bytes = b then some (SlotD.readD b) else none := rfl
  constructor
  · rintro ⟨h1, h2, h3⟩
    have : SlotD.dec b = some (SlotD.readD b) := by rw [hd, if_pos ⟨h3, (dec_ref hb).2 ⟨h1, h2⟩⟩]
    unfold DecS DecE
    rw [this]
    exact ⟨rfl, rfl⟩
  · intro h
    have : SlotD.dec b = none := by rw [hd, if_neg fun ⟨h3, h4⟩ => h ⟨((dec_ref hb).1 h4).1, ((dec_ref hb).1 h4).2, h3⟩]
    unfold DecS DecE
    rw [this]
    exact ⟨rfl, rfl⟩
set_option maxRecDepth 10000 in
set_option maxHeartbeats 2000000 in
theorem RRead_c {w0 w : World} {F : List SP} {b : List (BitVec 8)} (H : At w0 F w) (hb : b.length = 64) : Calls Tryd.prog 39 #[.string (sB b)] w fun r w' => r = .returned (.tuple #[.agg (DecS b).cells.toArray, .int .i64 (DecE b)]) ∧ At w0 F w' := by
  have HB := Lib.hid hb
  have DR := Lib.hid (dec_res hb)
  have TO := Lib.hid (SlotD.readD_ok hb)
  have hdl : ∀ p k, p + k ≤ 64 → ((b.drop p).take k).length ≤ 8 ∨ 8 < k := fun p k h => by rw [List.length_take, List.length_drop]; omega
  obtain ⟨x0, hx0⟩ : ∃ x, x = gb b 0 := ⟨_, rfl⟩
  have HX := Lib.hid (show b[0]? = some x0 by rw [hx0]; exact gb_get (by omega))
  obtain ⟨T, hT⟩ : ∃ T, T = SlotD.readD b := ⟨_, rfl⟩
  rw [← hT] at DR TO
  rw [← hx0] at DR
  have hlast : (iv x0 == 1) = T.last := by
    have h0 : b.take 1 = [gb b 0] := by
      match b, hb with
      | x :: r, _ => rfl
    rw [hT]
    show _ = decide (deN (b.take 1) = 1)
    rw [h0, ← hx0]
    show _ = decide (0 * 256 + x0.toNat = 1)
    rw [Nat.zero_mul, Nat.zero_add, Bool.eq_iff_iff, beq_iff_eq, decide_eq_true_eq]
    unfold iv
    omega
  have n1 := Lib.hid (show deN ((b.drop 3).take (11 - 3)) = T.lo by rw [hT]; rfl)
  have n2 := Lib.hid (show deN ((b.drop 11).take (19 - 11)) = T.hi by rw [hT]; rfl)
  have n3 := Lib.hid (show deN ((b.drop 19).take (23 - 19)) = T.delay by rw [hT]; rfl)
  have n4 := Lib.hid (show deN ((b.drop 23).take (25 - 23)) = T.who by rw [hT]; rfl)
  have n5 := Lib.hid (show deN ((b.drop 25).take (29 - 25)) = T.epoch by rw [hT]; rfl)
  have n6 := Lib.hid (show (b.drop 29).take (45 - 29) = T.nonce by rw [hT]; rfl)
  have n7 := Lib.hid (show (b.drop 45).take (61 - 45) = T.mac by rw [hT]; rfl)
  obtain ⟨D1, hD1⟩ : ∃ D, D = (b.drop 1).take (3 - 1) := ⟨_, rfl⟩
  have HD1 := Lib.hid hD1
  have HDl := Lib.hid (show D1.length ≤ 8 by rw [hD1, List.length_take]; omega)
  have n8 := Lib.hid (show deN D1 = T.to by
    rw [hD1, hT]
    unfold SlotD.to SlotD.readD
    simp only
    split <;> simp_all)
  have w1 : IntKind.u32.wrap (T.delay : Int) = (T.delay : Int) := by rw [IntKind.wrap_u32]; have := TO.out.delay; omega
  have w2 : IntKind.u16.wrap (T.who : Int) = (T.who : Int) := by rw [IntKind.wrap_u16]; have := TO.out.who; omega
  have w3 : IntKind.u32.wrap (T.epoch : Int) = (T.epoch : Int) := by rw [IntKind.wrap_u32]; have := TO.out.epoch; omega
  have hto : T.to < 65536 := by unfold SlotD.to; have := TO.out.box; have := TO.out.next; split <;> omega
  have w4 : IntKind.u16.wrap (T.to : Int) = (T.to : Int) := by rw [IntKind.wrap_u16]; omega
  obtain ⟨S1, hS1⟩ : ∃ S1, S1 = SlotD.mk T.last 0 0 T.who T.epoch T.nonce T.mac T.lo T.hi T.delay := ⟨_, rfl⟩
  have HBL := Lib.hid (run_buildL places_slot [(0, .bool T.last), (7, .int .u64 (T.lo : Int)), (8, .int .u64 (T.hi : Int)), (9, .int .u32 (T.delay : Int)), (3, .int .u16 (T.who : Int)), (4, .int .u32 (T.epoch : Int)), (5, .agg (v8 T.nonce).toArray), (6, .agg (v8 T.mac).toArray)] (by rw [hS1]; exact slot_built TO.out.nonce TO.out.mac : _ = some S1.cells))
  have hS1l := Lib.hid (show S1.cells.length = 40 by rw [hS1]; exact SlotD.cells_length TO.out.nonce TO.out.mac)
  have hTl := Lib.hid (SlotD.cells_length TO.out.nonce TO.out.mac)
  have hS1b := Lib.hid (show T.last = true → ({ S1 with box := T.to } : SlotD) = T by
    intro h
    have e : T.next = 0 := by rw [hT] at h ⊢; unfold SlotD.readD at h ⊢; simp_all
    rw [hS1]
    unfold SlotD.to
    rw [h]
    cases T
    simp_all)
  have hS1n := Lib.hid (show T.last = false → ({ S1 with next := T.to } : SlotD) = T by
    intro h
    have e : T.box = 0 := by rw [hT] at h ⊢; unfold SlotD.readD at h ⊢; simp_all
    rw [hS1]
    unfold SlotD.to
    rw [h]
    cases T
    simp_all)
  have h0 := Lib.hid (show S1.cells[0]? = some (.bool T.last) by rw [hS1]; rfl)
  clear hb hx0 hT hS1 hdl hto hD1
  go_enter Tryd.func39, Tryd.ntmps39
  go_wp2_with ((with_reducible refine wpList_op rfl ?_); intro _ hK; first
    | (refine dst_is 2 rfl ?_; refine wp_alloc_sl 45 rfl info_slot H (fun O w' (H : At w0 (raw O SlotD.zero.cells.toArray 45 :: F) w') _ => hK _ _ (Stop.go ?_))))
  refine Stop.un ?_
  go_wp2_with fail
  refine wpS_begin [] (raw O SlotD.zero.cells.toArray 45 :: F) (.fr 0 (.fr 1 (.fr 2 (.fr 3 (.fr 4 (.fr 5 (.fr 6 (.fr 7 (.fr 8 (.fr 9 (.fr 10 (.fr 11 (.fr 12 (.fr 13 (.fr 14 (.fr 15 (.fr 16 (.fr 17 (.fr 18 (.fr 19 (.fr 20 (.fr 21 (.fr 22 (.fr 23 (.fr 24 (.fr 25 (.fr 26 (.fr 27 (.nx 28 (.nx 29 .nil)))))))))))))))))))))))))))))) rfl (by kernel_rfl) (by kernel_rfl) H ?_
  clear H
  intro ops hOps
  refine wpS_free hOps rfl (fun _ _ _ h => h) (yl_move rfl _ rfl) ?_
  simp only [nrm]
  refine wpS_free hOps rfl (fun _ _ _ h => h) (yl rfl (fun w _ => exec_sidx (n := 0) (b := x0) rfl under_strT rfl rfl HX.out w)) ?_
  simp only [nrm]
  refine wpS_free hOps (v := ?vOp3178) rfl (fun _ _ _ h => h) (yl rfl ?yOp3178) ?_
  case yOp3178 => (intro w hw; go_simp; first | done | rfl)
  simp only [nrm]
  refine wpS_free hOps rfl (fun _ _ _ h => h) (yl_move rfl _ rfl) ?_
  simp only [nrm]
  refine wpS_free hOps rfl (fun _ _ _ h => h) (yl_slice rfl 9 (.tmp 10) (some (.const (.int .i64 3))) (some (.const (.int .i64 11))) none rfl (v := .string (sB ((b.drop 3).take (11 - 3)))) (fun w => run_spart2 (P := Tryd.prog) (l := b) (i := 3) (j := 11) (I := 3) (J := 11) under_strT rfl rfl (by omega) (by rw [HB.out]; omega) w)) ?_
  simp only [nrm]
  refine wpS_fcall hOps (v := ?vOp3185) rfl (fun _ _ _ h => h) (GY.call rfl _ _ _ rfl Tryd.func57 rfl (by kernel_rfl) ?yOp3185) ?_
  case yOp3185 =>
    intro L w f H
    simp only [List.map_toArray, List.map_cons, List.map_nil, nrm]
    exact (by have h := RNumber_c (l := (b.drop 3).take (11 - 3)) H (by rw [List.length_take]; omega); rw [n1.out] at h; exact h)
  simp only [nrm]
  refine wpS_free hOps rfl (fun _ _ _ h => h) (yl_move rfl _ rfl) ?_
  simp only [nrm]
  refine wpS_free hOps rfl (fun _ _ _ h => h) (yl_slice rfl 9 (.tmp 13) (some (.const (.int .i64 11))) (some (.const (.int .i64 19))) none rfl (v := .string (sB ((b.drop 11).take (19 - 11)))) (fun w => run_spart2 (P := Tryd.prog) (l := b) (i := 11) (j := 19) (I := 11) (J := 19) under_strT rfl rfl (by omega) (by rw [HB.out]; omega) w)) ?_
  simp only [nrm]
  refine wpS_fcall hOps (v := ?vOp3192) rfl (fun _ _ _ h => h) (GY.call rfl _ _ _ rfl Tryd.func57 rfl (by kernel_rfl) ?yOp3192) ?_
  case yOp3192 =>
    intro L w f H
    simp only [List.map_toArray, List.map_cons, List.map_nil, nrm]
    exact (by have h := RNumber_c (l := (b.drop 11).take (19 - 11)) H (by rw [List.length_take]; omega); rw [n2.out] at h; exact h)
  simp only [nrm]
  refine wpS_free hOps rfl (fun _ _ _ h => h) (yl_move rfl _ rfl) ?_
  simp only [nrm]
  refine wpS_free hOps rfl (fun _ _ _ h => h) (yl_slice rfl 9 (.tmp 16) (some (.const (.int .i64 19))) (some (.const (.int .i64 23))) none rfl (v := .string (sB ((b.drop 19).take (23 - 19)))) (fun w => run_spart2 (P := Tryd.prog) (l := b) (i := 19) (j := 23) (I := 19) (J := 23) under_strT rfl rfl (by omega) (by rw [HB.out]; omega) w)) ?_
  simp only [nrm]
  refine wpS_fcall hOps (v := ?vOp3199) rfl (fun _ _ _ h => h) (GY.call rfl _ _ _ rfl Tryd.func57 rfl (by kernel_rfl) ?yOp3199) ?_
  case yOp3199 =>
    intro L w f H
    simp only [List.map_toArray, List.map_cons, List.map_nil, nrm]
    exact (by have h := RNumber_c (l := (b.drop 19).take (23 - 19)) H (by rw [List.length_take]; omega); rw [n3.out] at h; exact h)
  simp only [nrm]
  refine wpS_free hOps (v := ?vOp3201) rfl (fun _ _ _ h => h) (yl rfl ?yOp3201) ?_
  case yOp3201 => (intro w hw; go_simp; first | done | rfl)
  simp only [nrm]
  refine wpS_free hOps rfl (fun _ _ _ h => h) (yl_move rfl _ rfl) ?_
  simp only [nrm]
  refine wpS_free hOps rfl (fun _ _ _ h => h) (yl_slice rfl 9 (.tmp 20) (some (.const (.int .i64 23))) (some (.const (.int .i64 25))) none rfl (v := .string (sB ((b.drop 23).take (25 - 23)))) (fun w => run_spart2 (P := Tryd.prog) (l := b) (i := 23) (j := 25) (I := 23) (J := 25) under_strT rfl rfl (by omega) (by rw [HB.out]; omega) w)) ?_
  simp only [nrm]
  refine wpS_fcall hOps (v := ?vOp3208) rfl (fun _ _ _ h => h) (GY.call rfl _ _ _ rfl Tryd.func57 rfl (by kernel_rfl) ?yOp3208) ?_
  case yOp3208 =>
    intro L w f H
    simp only [List.map_toArray, List.map_cons, List.map_nil, nrm]
    exact (by have h := RNumber_c (l := (b.drop 23).take (25 - 23)) H (by rw [List.length_take]; omega); rw [n4.out] at h; exact h)
  simp only [nrm]
  refine wpS_free hOps (v := ?vOp3210) rfl (fun _ _ _ h => h) (yl rfl ?yOp3210) ?_
  case yOp3210 => (intro w hw; go_simp; first | done | rfl)
  simp only [nrm]
  refine wpS_free hOps rfl (fun _ _ _ h => h) (yl_move rfl _ rfl) ?_
  simp only [nrm]
  refine wpS_free hOps rfl (fun _ _ _ h => h) (yl_slice rfl 9 (.tmp 24) (some (.const (.int .i64 25))) (some (.const (.int .i64 29))) none rfl (v := .string (sB ((b.drop 25).take (29 - 25)))) (fun w => run_spart2 (P := Tryd.prog) (l := b) (i := 25) (j := 29) (I := 25) (J := 29) under_strT rfl rfl (by omega) (by rw [HB.out]; omega) w)) ?_
  simp only [nrm]
  refine wpS_fcall hOps (v := ?vOp3217) rfl (fun _ _ _ h => h) (GY.call rfl _ _ _ rfl Tryd.func57 rfl (by kernel_rfl) ?yOp3217) ?_
  case yOp3217 =>
    intro L w f H
    simp only [List.map_toArray, List.map_cons, List.map_nil, nrm]
    exact (by have h := RNumber_c (l := (b.drop 25).take (29 - 25)) H (by rw [List.length_take]; omega); rw [n5.out] at h; exact h)
  simp only [nrm]
  refine wpS_free hOps (v := ?vOp3219) rfl (fun _ _ _ h => h) (yl rfl ?yOp3219) ?_
  case yOp3219 => (intro w hw; go_simp; first | done | rfl)
  simp only [nrm]
  refine wpS_free hOps rfl (fun _ _ _ h => h) (yl_move rfl _ rfl) ?_
  simp only [nrm]
  refine wpS_free hOps rfl (fun _ _ _ h => h) (yl_slice rfl 9 (.tmp 28) (some (.const (.int .i64 29))) (some (.const (.int .i64 45))) none rfl (v := .string (sB T.nonce)) (fun w => by have h := run_spart2 (P := Tryd.prog) (l := b) (i := 29) (j := 45) (I := 29) (J := 45) under_strT rfl rfl (by omega) (by rw [HB.out]; omega) w; rw [n6.out] at h; exact h)) ?_
  simp only [nrm]
  refine wpS_fcall hOps (v := ?vOp3226) rfl (fun _ _ _ h => h) (GY.call rfl _ _ _ rfl Tryd.func58 rfl (by kernel_rfl) ?yOp3226) ?_
  case yOp3226 =>
    intro L w f H
    simp only [List.map_toArray, List.map_cons, List.map_nil, nrm]
    exact (RSixteen_c (l := T.nonce) H TO.out.nonce)
  simp only [nrm]
  refine wpS_free hOps rfl (fun _ _ _ h => h) (yl_move rfl _ rfl) ?_
  simp only [nrm]
  refine wpS_free hOps rfl (fun _ _ _ h => h) (yl_slice rfl 9 (.tmp 31) (some (.const (.int .i64 45))) (some (.const (.int .i64 61))) none rfl (v := .string (sB T.mac)) (fun w => by have h := run_spart2 (P := Tryd.prog) (l := b) (i := 45) (j := 61) (I := 45) (J := 61) under_strT rfl rfl (by omega) (by rw [HB.out]; omega) w; rw [n7.out] at h; exact h)) ?_
  simp only [nrm]
  refine wpS_fcall hOps (v := ?vOp3233) rfl (fun _ _ _ h => h) (GY.call rfl _ _ _ rfl Tryd.func58 rfl (by kernel_rfl) ?yOp3233) ?_
  case yOp3233 =>
    intro L w f H
    simp only [List.map_toArray, List.map_cons, List.map_nil, nrm]
    exact (RSixteen_c (l := T.mac) H TO.out.mac)
  simp only [nrm]
  refine wpS_free hOps rfl (fun _ _ _ h => h) (Hg.yl_build rfl 45 _ rfl (by rw [Array.toList_map]; rfl) HBL.out) ?_
  simp only [nrm]
  refine wpS_next hOps rfl rfl ?_
  intro w H K hK
  refine wp_alloc_sl 45 rfl info_slot H (fun S w' H _ => ?_)
  refine hK _ _ _ (.inr (.inl ((Imp.refl _).more _))) H ?_
  clear hK K H
  try simp only [nrm]
  refine wpS_next hOps rfl rfl ?_
  intro w H K hK
  refine wp_store_row_sl 45 _ _ rfl (b := S) (cells := S1.cells.toArray) rfl rfl (by rw [List.size_toArray, hS1l.out]; exact size_slot) (by simpa using SlotD.cells_one) 0 H rfl (by rw [List.size_toArray, List.size_toArray, hS1l.out]; rfl) (fun w' H => ?_)
  replace H : At w0 (raw S S1.cells.toArray 45 :: raw O SlotD.zero.cells.toArray 45 :: F) w' := H
  refine hK _ _ _ (.inr (.inr (by first | exact Imp.refl _ | exact (Imp.refl _).more _ | exact ((Imp.refl _).more _).more _ | exact seps_pick _ _ (by repeat (first | exact List.Sublist.refl _ | exact List.nil_sublist _ | apply List.Sublist.cons_cons | apply List.Sublist.cons))))) H ?_
  clear hK K H
  try simp only [nrm]
  refine wpS_end (fun w H => ?_)
  clear hOps ops
  go_wp2_with ((with_reducible refine wpList_op rfl ?_); intro _ hK; first
    | (refine dst_is 36 rfl ?_; refine wp_slice 9 _ _ _ _ rfl (run_spart2 (P := Tryd.prog) (l := b) (i := 1) (j := 3) (I := 1) (J := 3) under_strT rfl rfl (by omega) (by rw [HB.out]; omega) _) ?_; rw [← HD1.out]; refine hK _ _ (Stop.go ?_)))
  refine Stop.un ?_
  go_wp2_with fail
  refine (RNumber_c (l := D1) H HDl.out).mono ?_; rintro e w' ⟨rfl, H⟩
  rw [n8.out]
  go_upto_if 39 with ((with_reducible refine wpList_op rfl ?_); intro _ hK; first
    | (refine dst_is 39 rfl ?_; refine wp_get 4 _ rfl rfl (by kernel_rfl) (at_raw H 0 rfl h0.out) (hK _ _ ?_)))
  simp only [nrm]
  go_cut [5] from 7 to 46 (fun v wr => v = .int .u64 (T.to : Int) ∧ At w0 (raw S T.cells.toArray 45 :: raw O SlotD.zero.cells.toArray 45 :: F) wr)
  case first =>
    cases hl : T.last with
    | false =>
      have hS2 := Lib.hid (hS1n.out hl)
      clear hl
      go_wp2_with ((with_reducible refine wpList_op rfl ?_); intro _ hK; first
        | (refine sto_is 45 rfl ?_; refine wp_store_sl 26 _ _ rfl (b := S) (off := 1) (v := .int .u16 (T.to : Int)) rfl rfl (by kernel_rfl) rfl 0 H rfl (by rw [List.size_toArray, hS1l.out]; omega) (fun w' H => ?_); rw [SlotD.set_next, hS2.out] at H; replace H : At w0 (raw S T.cells.toArray 45 :: raw O SlotD.zero.cells.toArray 45 :: F) w' := H; refine hK _ _ ?_))
      go_meet
      case rel => exact ⟨rfl, H⟩
    | true =>
      have hS2 := Lib.hid (hS1b.out hl)
      clear hl
      go_wp2_with ((with_reducible refine wpList_op rfl ?_); intro _ hK; first
        | (refine sto_is 42 rfl ?_; refine wp_store_sl 43 _ _ rfl (b := S) (off := 2) (v := .int .u16 (T.to : Int)) rfl rfl (by kernel_rfl) rfl 0 H rfl (by rw [List.size_toArray, hS1l.out]; omega) (fun w' H => ?_); rw [SlotD.set_box, hS2.out] at H; replace H : At w0 (raw S T.cells.toArray 45 :: raw O SlotD.zero.cells.toArray 45 :: F) w' := H; refine hK _ _ ?_))
      go_meet
      case rel => exact ⟨rfl, H⟩
  case rest =>
    obtain ⟨rfl, H⟩ := hcut
    go_wp2_with ((with_reducible refine wpList_op rfl ?_); intro _ hK; first
      | (refine dst_is 46 rfl ?_; refine wp_mid 45 _ rfl rfl T.cells (by kernel_rfl) (by rw [hTl.out]; exact size_slot) (at_blk H 0 rfl) (hK _ _ ?_)))
    refine (RRight_c H TO.out).mono ?_; rintro e w' ⟨rfl, H⟩
    go_wp2_with fail
    by_cases c0 : x0.toNat ≤ 1
    · have g0 : ¬ (1 : Int) < iv x0 := by unfold iv; omega
      by_cases c1 : b.drop 61 = zs 3
      · have C1 := Lib.hid c1
        cases c2 : T.right with
        | true =>
          have hgood := Lib.hid (DR.out.1 ⟨c0, c1, c2⟩)
          clear c0 c1 c2
          refine wpS_begin [] (raw S T.cells.toArray 45 :: raw O SlotD.zero.cells.toArray 45 :: F) (.fr 0 (.fr 1 (.fr 2 (.fr 3 (.fr 4 (.fr 5 (.fr 6 (.fr 7 (.fr 8 (.fr 9 (.fr 10 (.fr 11 (.fr 12 .nil))))))))))))) rfl (by kernel_rfl) (by kernel_rfl) H ?_
          clear H
          intro ops hOps
          refine wpS_free hOps rfl (fun _ _ _ h => h) (yl_move rfl _ rfl) ?_
          simp only [nrm]
          refine wpS_free hOps rfl (fun _ _ _ h => h) (yl rfl (fun w _ => exec_sidx (n := 0) (b := x0) rfl under_strT rfl rfl HX.out w)) ?_
          simp only [nrm]
          refine wpS_free hOps (v := ?vOp3248) rfl (fun _ _ _ h => h) (yl rfl ?yOp3248) ?_
          case yOp3248 => (intro w hw; go_simp; first | done | rfl)
          simp only [nrm]
          refine wpS_free hOps rfl (fun _ _ _ h => h) (yl_move rfl _ rfl) ?_
          simp only [nrm]
          refine wpS_free hOps rfl (fun _ _ _ h => h) (yl_move rfl _ rfl) ?_
          simp only [nrm]
          refine wpS_free hOps rfl (fun _ _ _ h => h) (yl_slice rfl 9 (.tmp 52) (some (.const (.int .i64 61))) none none rfl (v := .string (sB (b.drop 61))) (fun w => run_sfrom (i := 61) under_strT rfl (by rw [HB.out]; omega) w)) ?_
          simp only [nrm]
          refine wpS_fcall hOps (v := ?vOp3258) rfl (fun _ _ _ h => h) (GY.call rfl _ _ _ rfl Tryd.func56 rfl (by kernel_rfl) ?yOp3258) ?_
          case yOp3258 =>
            intro L w f H
            simp only [List.map_toArray, List.map_cons, List.map_nil, nrm]
            exact (RZeros_c (n := 3) H (by omega))
          simp only [nrm]
          refine wpS_free hOps rfl (fun _ _ _ h => h) (yl rfl (fun w _ => exec_sneq_f (u := b.drop 61) (v := zs 3) rfl rfl rfl C1.out w)) ?_
          simp only [nrm]
          refine wpS_free hOps (v := ?vOp3262) rfl (fun _ _ _ h => h) (yl rfl ?yOp3262) ?_
          case yOp3262 => (intro w hw; go_simp; first | done | rfl)
          simp only [nrm]
          refine wpS_free hOps rfl (fun _ _ _ h => h) (yl_move rfl _ rfl) ?_
          simp only [nrm]
          refine wpS_free hOps rfl (fun _ _ _ h => h) (yl_move rfl _ rfl) ?_
          simp only [nrm]
          refine wpS_free hOps (v := ?vOp3270) rfl (fun _ _ _ h => h) (yl rfl ?yOp3270) ?_
          case yOp3270 => (intro w hw; go_simp; first | done | rfl)
          simp only [nrm]
          refine wpS_free hOps (v := ?vOp3272) rfl (fun _ _ _ h => h) (yl rfl ?yOp3272) ?_
          case yOp3272 => (intro w hw; go_simp; first | done | rfl)
          simp only [nrm]
          refine wpS_end (fun w H => ?_)
          clear hOps ops
          go_wp2_with ((with_reducible refine wpList_op rfl ?_); intro _ hK; first
            | (refine dst_is 62 rfl ?_; refine wp_mid 45 _ rfl rfl T.cells (by kernel_rfl) (by rw [hTl.out]; exact size_slot) (at_blk H 0 rfl) (hK _ _ ?_))
            | (refine sto_is 2 rfl ?_; refine wp_store_row_sl 45 _ _ rfl (b := O) (cells := T.cells.toArray) rfl rfl (by rw [List.size_toArray, hTl.out]; exact size_slot) (by simpa using SlotD.cells_one) 1 H rfl (by rw [List.size_toArray, List.size_toArray, hTl.out]; rfl) (fun w' H => ?_); replace H : At w0 (raw S T.cells.toArray 45 :: raw O T.cells.toArray 45 :: F) w' := H; refine hK _ _ ?_))
          exact bodyPost_ret (v := .tuple #[.agg T.cells.toArray, .int .i64 0]) (results_row_tmp rfl _ rfl (at_blk H 1 rfl) (by kernel_rfl) (by rw [hTl.out]; exact size_slot) rfl) rfl ⟨by rw [hgood.out.1, hgood.out.2], H.maskR [false, false]⟩
        | false =>
          have hbad := Lib.hid (DR.out.2 (fun h => by rw [c2] at h; exact absurd h.2.2 (by simp)))
          clear c0 c1 c2
          refine wpS_begin [] (raw S T.cells.toArray 45 :: raw O SlotD.zero.cells.toArray 45 :: F) (.fr 0 (.fr 1 (.fr 2 (.fr 3 (.fr 4 (.fr 5 (.fr 6 (.fr 7 (.fr 8 (.fr 9 (.fr 10 (.fr 11 (.fr 12 .nil))))))))))))) rfl (by kernel_rfl) (by kernel_rfl) H ?_
          clear H
          intro ops hOps
          refine wpS_free hOps rfl (fun _ _ _ h => h) (yl_move rfl _ rfl) ?_
          simp only [nrm]
          refine wpS_free hOps rfl (fun _ _ _ h => h) (yl rfl (fun w _ => exec_sidx (n := 0) (b := x0) rfl under_strT rfl rfl HX.out w)) ?_
          simp only [nrm]
          refine wpS_free hOps (v := ?vOp3281) rfl (fun _ _ _ h => h) (yl rfl ?yOp3281) ?_
          case yOp3281 => (intro w hw; go_simp; first | done | rfl)
          simp only [nrm]
          refine wpS_free hOps rfl (fun _ _ _ h => h) (yl_move rfl _ rfl) ?_
          simp only [nrm]
          refine wpS_free hOps rfl (fun _ _ _ h => h) (yl_move rfl _ rfl) ?_
          simp only [nrm]
          refine wpS_free hOps rfl (fun _ _ _ h => h) (yl_slice rfl 9 (.tmp 52) (some (.const (.int .i64 61))) none none rfl (v := .string (sB (b.drop 61))) (fun w => run_sfrom (i := 61) under_strT rfl (by rw [HB.out]; omega) w)) ?_
          simp only [nrm]
          refine wpS_fcall hOps (v := ?vOp3291) rfl (fun _ _ _ h => h) (GY.call rfl _ _ _ rfl Tryd.func56 rfl (by kernel_rfl) ?yOp3291) ?_
          case yOp3291 =>
            intro L w f H
            simp only [List.map_toArray, List.map_cons, List.map_nil, nrm]
            exact (RZeros_c (n := 3) H (by omega))
          simp only [nrm]
          refine wpS_free hOps rfl (fun _ _ _ h => h) (yl rfl (fun w _ => exec_sneq_f (u := b.drop 61) (v := zs 3) rfl rfl rfl C1.out w)) ?_
          simp only [nrm]
          refine wpS_free hOps (v := ?vOp3295) rfl (fun _ _ _ h => h) (yl rfl ?yOp3295) ?_
          case yOp3295 => (intro w hw; go_simp; first | done | rfl)
          simp only [nrm]
          refine wpS_free hOps rfl (fun _ _ _ h => h) (yl_move rfl _ rfl) ?_
          simp only [nrm]
          refine wpS_free hOps rfl (fun _ _ _ h => h) (yl_move rfl _ rfl) ?_
          simp only [nrm]
          refine wpS_free hOps (v := ?vOp3303) rfl (fun _ _ _ h => h) (yl rfl ?yOp3303) ?_
          case yOp3303 => (intro w hw; go_simp; first | done | rfl)
          simp only [nrm]
          refine wpS_free hOps (v := ?vOp3305) rfl (fun _ _ _ h => h) (yl rfl ?yOp3305) ?_
          case yOp3305 => (intro w hw; go_simp; first | done | rfl)
          simp only [nrm]
          refine wpS_end (fun w H => ?_)
          clear hOps ops
          go_wp2_with ((with_reducible refine wpList_op rfl ?_); intro _ hK; first
            | (refine dst_is 61 rfl ?_; refine Hg.wp_build 45 _ rfl (by rw [Array.toList_map]; rfl) (run_buildL places_slot [] rfl _) (hK _ _ ?_))
            | (refine sto_is 2 rfl ?_; refine wp_store_row_sl 45 _ _ rfl (b := O) (cells := SlotD.zero.cells.toArray) rfl rfl size_slot (by simpa using SlotD.cells_one) 1 H rfl rfl (fun w' H => ?_); replace H : At w0 (raw S T.cells.toArray 45 :: raw O SlotD.zero.cells.toArray 45 :: F) w' := H; refine hK _ _ ?_))
          exact bodyPost_ret (v := .tuple #[.agg SlotD.zero.cells.toArray, .int .i64 3]) (results_row_tmp rfl _ rfl (at_blk H 1 rfl) (by kernel_rfl) size_slot rfl) rfl ⟨by rw [hbad.out.1, hbad.out.2], H.maskR [false, false]⟩
      · have C1 := Lib.hid c1
        have hbad := Lib.hid (DR.out.2 (fun h => c1 h.2.1))
        clear c0 c1
        refine wpS_begin [] (raw S T.cells.toArray 45 :: raw O SlotD.zero.cells.toArray 45 :: F) (.fr 0 (.fr 1 (.fr 2 (.fr 3 (.fr 4 (.fr 5 (.fr 6 (.fr 7 (.fr 8 (.fr 9 (.fr 10 (.fr 11 (.fr 12 .nil))))))))))))) rfl (by kernel_rfl) (by kernel_rfl) H ?_
        clear H
        intro ops hOps
        refine wpS_free hOps rfl (fun _ _ _ h => h) (yl_move rfl _ rfl) ?_
        simp only [nrm]
        refine wpS_free hOps rfl (fun _ _ _ h => h) (yl rfl (fun w _ => exec_sidx (n := 0) (b := x0) rfl under_strT rfl rfl HX.out w)) ?_
        simp only [nrm]
        refine wpS_free hOps (v := ?vOp3314) rfl (fun _ _ _ h => h) (yl rfl ?yOp3314) ?_
        case yOp3314 => (intro w hw; go_simp; first | done | rfl)
        simp only [nrm]
        refine wpS_free hOps rfl (fun _ _ _ h => h) (yl_move rfl _ rfl) ?_
        simp only [nrm]
        refine wpS_free hOps rfl (fun _ _ _ h => h) (yl_move rfl _ rfl) ?_
        simp only [nrm]
        refine wpS_free hOps rfl (fun _ _ _ h => h) (yl_slice rfl 9 (.tmp 52) (some (.const (.int .i64 61))) none none rfl (v := .string (sB (b.drop 61))) (fun w => run_sfrom (i := 61) under_strT rfl (by rw [HB.out]; omega) w)) ?_
        simp only [nrm]
        refine wpS_fcall hOps (v := ?vOp3324) rfl (fun _ _ _ h => h) (GY.call rfl _ _ _ rfl Tryd.func56 rfl (by kernel_rfl) ?yOp3324) ?_
        case yOp3324 =>
          intro L w f H
          simp only [List.map_toArray, List.map_cons, List.map_nil, nrm]
          exact (RZeros_c (n := 3) H (by omega))
        simp only [nrm]
        refine wpS_free hOps rfl (fun _ _ _ h => h) (yl rfl (fun w _ => exec_sneq_t (u := b.drop 61) (v := zs 3) rfl rfl rfl C1.out w)) ?_
        simp only [nrm]
        refine wpS_free hOps (v := ?vOp3328) rfl (fun _ _ _ h => h) (yl rfl ?yOp3328) ?_
        case yOp3328 => (intro w hw; go_simp; first | done | rfl)
        simp only [nrm]
        refine wpS_free hOps rfl (fun _ _ _ h => h) (yl_move rfl _ rfl) ?_
        simp only [nrm]
        refine wpS_free hOps rfl (fun _ _ _ h => h) (yn rfl) ?_
        simp only [nrm]
        refine wpS_free hOps rfl (fun _ _ _ h => h) (yn rfl) ?_
        simp only [nrm]
        refine wpS_free hOps (v := ?vOp3337) rfl (fun _ _ _ h => h) (yl rfl ?yOp3337) ?_
        case yOp3337 => (intro w hw; go_simp; first | done | rfl)
        simp only [nrm]
        refine wpS_end (fun w H => ?_)
        clear hOps ops
        go_wp2_with ((with_reducible refine wpList_op rfl ?_); intro _ hK; first
          | (refine dst_is 61 rfl ?_; refine Hg.wp_build 45 _ rfl (by rw [Array.toList_map]; rfl) (run_buildL places_slot [] rfl _) (hK _ _ ?_))
          | (refine sto_is 2 rfl ?_; refine wp_store_row_sl 45 _ _ rfl (b := O) (cells := SlotD.zero.cells.toArray) rfl rfl size_slot (by simpa using SlotD.cells_one) 1 H rfl rfl (fun w' H => ?_); replace H : At w0 (raw S T.cells.toArray 45 :: raw O SlotD.zero.cells.toArray 45 :: F) w' := H; refine hK _ _ ?_))
        exact bodyPost_ret (v := .tuple #[.agg SlotD.zero.cells.toArray, .int .i64 3]) (results_row_tmp rfl _ rfl (at_blk H 1 rfl) (by kernel_rfl) size_slot rfl) rfl ⟨by rw [hbad.out.1, hbad.out.2], H.maskR [false, false]⟩
    · have g0 : (1 : Int) < iv x0 := by unfold iv; omega
      have hbad := Lib.hid (DR.out.2 (fun h => c0 h.1))
      clear c0
      refine wpS_begin [] (raw S T.cells.toArray 45 :: raw O SlotD.zero.cells.toArray 45 :: F) (.fr 0 (.fr 1 (.fr 2 (.fr 3 (.fr 4 (.fr 5 (.fr 6 (.fr 7 (.fr 8 (.fr 9 (.fr 10 (.fr 11 (.fr 12 .nil))))))))))))) rfl (by kernel_rfl) (by kernel_rfl) H ?_
      clear H
      intro ops hOps
      refine wpS_free hOps rfl (fun _ _ _ h => h) (yl_move rfl _ rfl) ?_
      simp only [nrm]
      refine wpS_free hOps rfl (fun _ _ _ h => h) (yl rfl (fun w _ => exec_sidx (n := 0) (b := x0) rfl under_strT rfl rfl HX.out w)) ?_
      simp only [nrm]
      refine wpS_free hOps (v := ?vOp3346) rfl (fun _ _ _ h => h) (yl rfl ?yOp3346) ?_
      case yOp3346 => (intro w hw; go_simp; first | done | rfl)
      simp only [nrm]
      refine wpS_free hOps rfl (fun _ _ _ h => h) (yl_move rfl _ rfl) ?_
      simp only [nrm]
      refine wpS_free hOps rfl (fun _ _ _ h => h) (yn rfl) ?_
      simp only [nrm]
      refine wpS_free hOps rfl (fun _ _ _ h => h) (yn rfl) ?_
      simp only [nrm]
      refine wpS_free hOps rfl (fun _ _ _ h => h) (yn rfl) ?_
      simp only [nrm]
      refine wpS_free hOps rfl (fun _ _ _ h => h) (yn rfl) ?_
      simp only [nrm]
      refine wpS_free hOps (v := ?vOp3359) rfl (fun _ _ _ h => h) (yl rfl ?yOp3359) ?_
      case yOp3359 => (intro w hw; go_simp; first | done | rfl)
      simp only [nrm]
      refine wpS_free hOps rfl (fun _ _ _ h => h) (yl_move rfl _ rfl) ?_
      simp only [nrm]
      refine wpS_free hOps rfl (fun _ _ _ h => h) (yn rfl) ?_
      simp only [nrm]
      refine wpS_free hOps rfl (fun _ _ _ h => h) (yn rfl) ?_
      simp only [nrm]
      refine wpS_free hOps (v := ?vOp3368) rfl (fun _ _ _ h => h) (yl rfl ?yOp3368) ?_
      case yOp3368 => (intro w hw; go_simp; first | done | rfl)
      simp only [nrm]
      refine wpS_end (fun w H => ?_)
      clear hOps ops
      go_wp2_with ((with_reducible refine wpList_op rfl ?_); intro _ hK; first
        | (refine dst_is 61 rfl ?_; refine Hg.wp_build 45 _ rfl (by rw [Array.toList_map]; rfl) (run_buildL places_slot [] rfl _) (hK _ _ ?_))
        | (refine sto_is 2 rfl ?_; refine wp_store_row_sl 45 _ _ rfl (b := O) (cells := SlotD.zero.cells.toArray) rfl rfl size_slot (by simpa using SlotD.cells_one) 1 H rfl rfl (fun w' H => ?_); replace H : At w0 (raw S T.cells.toArray 45 :: raw O SlotD.zero.cells.toArray 45 :: F) w' := H; refine hK _ _ ?_))
      exact bodyPost_ret (v := .tuple #[.agg SlotD.zero.cells.toArray, .int .i64 3]) (results_row_tmp rfl _ rfl (at_blk H 1 rfl) (by kernel_rfl) size_slot rfl) rfl ⟨by rw [hbad.out.1, hbad.out.2], H.maskR [false, false]⟩
end Go.Proofs.YtgdphamdbpkjdaaDoor
