import Derived.Test.YtmflbekabkainaaGreatDoorQShaW
import Derived.Test.YtmflbekabkainaaGreatDoorQHgC
set_option linter.unusedVariables false
set_option linter.unusedSimpArgs false
namespace Go.Proofs.YtmflbekabkainaaGreatDoor
open Go.RowKit Go.Hg
def wri (p : Nat) (bs : List (BitVec 8)) : SP := fun hp => ∃ a q, seps [raw p #[.slice a bs.length q] 172, lrow 5 1 c8 (.slice a bs.length q) bs] hp
theorem wri_open {w0 w : World} {F : List SP} {p : Nat} {bs : List (BitVec 8)} (H : At w0 (wri p bs :: F) w) : ∃ a q, At w0 (raw p #[.slice a bs.length q] 172 :: lrow 5 1 c8 (.slice a bs.length q) bs :: F) w := by
 obtain ⟨bel, h, ⟨h1, h2, ⟨a, q, p⟩, q', r⟩, t, u⟩ := H
 exact ⟨a, q, At.opened (A := [_, _]) ⟨bel, h, ⟨h1, h2, p, q', r⟩, t, u⟩ fun _ x => x⟩
theorem wri_close {w0 w : World} {F : List SP} {p n q : Nat} {a : Option Addr} {bs : List (BitVec 8)} (hn : n = bs.length) (H : At w0 (raw p #[.slice a n q] 172 :: lrow 5 1 c8 (.slice a n q) bs :: F) w) : At w0 (wri p bs :: F) w := by
 subst hn
 exact At.closed (A := [_, _]) H fun _ x => ⟨a, q, x⟩
theorem wri_new {w0 w : World} {F : List SP} {p : Nat} (H : At w0 (raw p #[.slice none 0 0] 172 :: F) w) : At w0 (wri p [] :: F) w := by
 refine wri_close (a := none) (q := 0) (n := 0) (bs := []) rfl ((lrow_nil H c8 5 1).pull 1 rfl)
set_option maxRecDepth 10000 in
set_option maxHeartbeats 1000000 in
theorem put8_c {w0 w : World} {F : List SP} {p n size : Nat} {bs : List (BitVec 8)} (H : At w0 (wri p bs :: F) w) (hs : size ≤ 8) (hn : (n : Int) < 18446744073709551616) (hb : bs.length ≤ 1000000000) :
    Calls Tryz.prog 160 #[.pointer (some ⟨p, 0, none⟩), .int .u8 n, .int .i64 size] w fun e w' => e = .returned (.pointer (some ⟨p, 0, none⟩)) ∧ At w0 (wri p (bs ++ beN size n) :: F) w' := by
 have hw : IntKind.u64.wrap (n : Int) = n := by rw [IntKind.wrap_u64]; omega
 have HB := Lib.hid hb
 obtain ⟨R, hR⟩ : ∃ R, R = bs ++ beN size n := ⟨_, rfl⟩
 rw [← hR]
 have HR := Lib.hid hR
 have hsi : (size : Int) ≤ 8 := by omega
 clear hn hb hR
 go_enter Tryz.func160, Tryz.ntmps160
 go_wp2_with fail
 go_loopw [7] (fun i wr => ∃ c : Nat, ∃ D : List (BitVec 8), c ≤ size ∧ i = .int .i64 ((c : Int) - 1) ∧ D ++ beN c n = beN size n ∧ D.length = size - c ∧ At w0 (wri p (bs ++ D) :: F) wr) (fun i _ => (intOf i + 1).toNat)
 case atStart => exact ⟨size, [], Nat.le_refl _, rfl, rfl, by simp, by simpa using H⟩
 case round =>
  clear H
  obtain ⟨c, D, hc, rfl, hD, hDl, H⟩ := hrel
  have HD := Lib.hid hD
  have HDL := Lib.hid hDl
  clear hD hDl
  by_cases h0 : c = 0
  · subst h0
    have hfin : At w0 (wri p R :: F) wr := by
     rw [HR.out, ← HD.out]
     simpa [beN] using H
    clear H
    go_wp2_with fail
    go_ret
    exact ⟨rfl, hfin⟩
  · obtain ⟨d, rfl⟩ : ∃ d, c = d + 1 := ⟨c - 1, by omega⟩
    clear h0
    have ed : ((d + 1 : Nat) : Int) - 1 = (d : Int) := by omega
    have hd7 : (d : Int) ≤ 7 := by omega
    rw [ed]
    obtain ⟨e, he⟩ : ∃ e, e = 8 * d := ⟨_, rfl⟩
    have ee : 8 * (d : Int) = (e : Int) := by omega
    have heb : (e : Int) ≤ 56 := by omega
    have ew : IntKind.i64.wrap (e : Int) = e := by rw [IntKind.wrap_i64]; omega
    obtain ⟨x, hx⟩ : ∃ x : BitVec 8, x = BitVec.ofNat 8 (n >>> e) := ⟨_, rfl⟩
    obtain ⟨m, hm⟩ : ∃ m, m = n >>> e := ⟨_, rfl⟩
    have e4 : (n : Int) / 2 ^ e = (m : Int) := by rw [hm, Nat.shiftRight_eq_div_pow]; simp
    have e5 : IntKind.u8.wrap (m : Int) = iv x := by rw [hx, hm, wrap8]; unfold iv; rw [BitVec.toNat_ofNat]; omega
    have hD2 : (D ++ [x]) ++ beN d n = beN size n := by rw [← HD.out, hx, he, List.append_assoc]; rfl
    have hD3 : (D ++ [x]).length = size - d := by rw [List.length_append, HDL.out]; show _ + 1 = _; omega
    have hbl : (bs ++ D).length ≤ 1000000010 := by rw [List.length_append, HDL.out]; have := HB.out; omega
    obtain ⟨a, q, H⟩ := wri_open H
    obtain ⟨X, hX⟩ : ∃ X, X = bs ++ D := ⟨_, rfl⟩
    rw [← hX] at H hbl
    obtain ⟨l, hl⟩ : ∃ l, l = X.length := ⟨_, rfl⟩
    rw [← hl] at H hbl
    have HL := Lib.hid hl
    have HX := Lib.hid hX
    have HD2 := Lib.hid hD2
    have HD3 := Lib.hid hD3
    clear HD HDL hx hm he hD2 hD3 hX hl
    go_wp2_with fail
    refine wpM_begin [12, 15] ((At w0 (raw p #[.slice a l q] 172 :: lrow 5 1 c8 (.slice a l q) X :: F))) [(0, 2), (1, 2), (2, 2), (3, 2), (4, 1), (5, 2), (6, 2), (7, 2), (8, 2), (9, 2), (10, 2), (11, 0), (12, 0), (13, 2), (14, 2), (15, 0)] rfl (by kernel_rfl) (by kernel_rfl) ((H.drew)) ?_
    intro ops hOps hS
    replace H := H.drew
    iterate 4 refine fm hOps ?_
    refine tm hOps hS (fun w hw => at_raw hw 0 rfl (cs := [.slice a l q]) rfl) ?_
    iterate 6 refine fm hOps ?_
    refine wpM_next hOps rfl rfl ?_
    intro K hK
    refine wp_lbuild el_u8 _ under_bytes8 _ rfl rfl (y := x) rfl (by decide) (by decide) H (fun C w' H => ?_)
    have hS := (H.maskR [false, true, true])
    refine hK _ _ (.inr hS) ?_
    clear hK K
    simp only [nrm]
    refine wpM_next hOps rfl rfl ?_
    intro K hK
    refine wp_lapp_one el_u8 _ under_bytes8 _ _ rfl (v := .slice a l q) rfl (H.pull 2 rfl) rfl 0 rfl rfl (by rw [← HL.out]; simp only [maxLen]; omega) (by rw [← HL.out]; omega) (fun b' q' w' H => ?_)
    refine hK _ _ (.inl (by decide)) ?_
    clear hK K
    simp only [nrm]
    iterate 2 refine fm hOps ?_
    refine wpM_next hOps rfl rfl ?_
    intro K hK
    refine wp_store_sl 33 _ _ rfl (off := 0) (v := .slice b' (X ++ [x]).length q') rfl rfl (by kernel_rfl) rfl 2 H rfl (by show 0 < 1; omega) (fun w' (H : At w0 (lrow 5 1 c8 (.slice b' (X ++ [x]).length q') (X ++ [x]) :: raw C (c8 x).toArray 5 :: raw p #[.slice b' (X ++ [x]).length q'] 172 :: F) w') => ?_)
    refine hK _ _ (.inl (by decide)) ?_
    clear hK K
    simp only [nrm]
    refine wpM_end ?_
    clear hOps hS ops
    replace H : At w0 (wri p (bs ++ (D ++ [x])) :: F) w' := by
     rw [HX.out, List.append_assoc] at H
     exact wri_close rfl ((H.maskR [true, false, true]).pull 1 rfl)
    go_wp2_with fail
    first
     | (refine ⟨?_, ?measure⟩; iterate 220 (try apply Exists.intro); refine ⟨?rel, rfl⟩)
     | refine ⟨?rel, ?measure⟩
    case rel => exact ⟨d, D ++ [x], by omega, rfl, HD2.out, HD3.out, H⟩
    case measure => first | (simp [intOf]; done) | (simp [intOf]; omega)
set_option maxRecDepth 10000 in
set_option maxHeartbeats 1000000 in
theorem put16_c {w0 w : World} {F : List SP} {p n size : Nat} {bs : List (BitVec 8)} (H : At w0 (wri p bs :: F) w) (hs : size ≤ 8) (hn : (n : Int) < 18446744073709551616) (hb : bs.length ≤ 1000000000) :
    Calls Tryz.prog 104 #[.pointer (some ⟨p, 0, none⟩), .int .u16 n, .int .i64 size] w fun e w' => e = .returned (.pointer (some ⟨p, 0, none⟩)) ∧ At w0 (wri p (bs ++ beN size n) :: F) w' := by
 have hw : IntKind.u64.wrap (n : Int) = n := by rw [IntKind.wrap_u64]; omega
 have HB := Lib.hid hb
 obtain ⟨R, hR⟩ : ∃ R, R = bs ++ beN size n := ⟨_, rfl⟩
 rw [← hR]
 have HR := Lib.hid hR
 have hsi : (size : Int) ≤ 8 := by omega
 clear hn hb hR
 go_enter Tryz.func104, Tryz.ntmps104
 go_wp2_with fail
 go_loopw [7] (fun i wr => ∃ c : Nat, ∃ D : List (BitVec 8), c ≤ size ∧ i = .int .i64 ((c : Int) - 1) ∧ D ++ beN c n = beN size n ∧ D.length = size - c ∧ At w0 (wri p (bs ++ D) :: F) wr) (fun i _ => (intOf i + 1).toNat)
 case atStart => exact ⟨size, [], Nat.le_refl _, rfl, rfl, by simp, by simpa using H⟩
 case round =>
  clear H
  obtain ⟨c, D, hc, rfl, hD, hDl, H⟩ := hrel
  have HD := Lib.hid hD
  have HDL := Lib.hid hDl
  clear hD hDl
  by_cases h0 : c = 0
  · subst h0
    have hfin : At w0 (wri p R :: F) wr := by
     rw [HR.out, ← HD.out]
     simpa [beN] using H
    clear H
    go_wp2_with fail
    go_ret
    exact ⟨rfl, hfin⟩
  · obtain ⟨d, rfl⟩ : ∃ d, c = d + 1 := ⟨c - 1, by omega⟩
    clear h0
    have ed : ((d + 1 : Nat) : Int) - 1 = (d : Int) := by omega
    have hd7 : (d : Int) ≤ 7 := by omega
    rw [ed]
    obtain ⟨e, he⟩ : ∃ e, e = 8 * d := ⟨_, rfl⟩
    have ee : 8 * (d : Int) = (e : Int) := by omega
    have heb : (e : Int) ≤ 56 := by omega
    have ew : IntKind.i64.wrap (e : Int) = e := by rw [IntKind.wrap_i64]; omega
    obtain ⟨x, hx⟩ : ∃ x : BitVec 8, x = BitVec.ofNat 8 (n >>> e) := ⟨_, rfl⟩
    obtain ⟨m, hm⟩ : ∃ m, m = n >>> e := ⟨_, rfl⟩
    have e4 : (n : Int) / 2 ^ e = (m : Int) := by rw [hm, Nat.shiftRight_eq_div_pow]; simp
    have e5 : IntKind.u8.wrap (m : Int) = iv x := by rw [hx, hm, wrap8]; unfold iv; rw [BitVec.toNat_ofNat]; omega
    have hD2 : (D ++ [x]) ++ beN d n = beN size n := by rw [← HD.out, hx, he, List.append_assoc]; rfl
    have hD3 : (D ++ [x]).length = size - d := by rw [List.length_append, HDL.out]; show _ + 1 = _; omega
    have hbl : (bs ++ D).length ≤ 1000000010 := by rw [List.length_append, HDL.out]; have := HB.out; omega
    obtain ⟨a, q, H⟩ := wri_open H
    obtain ⟨X, hX⟩ : ∃ X, X = bs ++ D := ⟨_, rfl⟩
    rw [← hX] at H hbl
    obtain ⟨l, hl⟩ : ∃ l, l = X.length := ⟨_, rfl⟩
    rw [← hl] at H hbl
    have HL := Lib.hid hl
    have HX := Lib.hid hX
    have HD2 := Lib.hid hD2
    have HD3 := Lib.hid hD3
    clear HD HDL hx hm he hD2 hD3 hX hl
    go_wp2_with fail
    refine wpM_begin [12, 15] ((At w0 (raw p #[.slice a l q] 172 :: lrow 5 1 c8 (.slice a l q) X :: F))) [(0, 2), (1, 2), (2, 2), (3, 2), (4, 1), (5, 2), (6, 2), (7, 2), (8, 2), (9, 2), (10, 2), (11, 0), (12, 0), (13, 2), (14, 2), (15, 0)] rfl (by kernel_rfl) (by kernel_rfl) ((H.drew)) ?_
    intro ops hOps hS
    replace H := H.drew
    iterate 4 refine fm hOps ?_
    refine tm hOps hS (fun w hw => at_raw hw 0 rfl (cs := [.slice a l q]) rfl) ?_
    iterate 6 refine fm hOps ?_
    refine wpM_next hOps rfl rfl ?_
    intro K hK
    refine wp_lbuild el_u8 _ under_bytes8 _ rfl rfl (y := x) rfl (by decide) (by decide) H (fun C w' H => ?_)
    have hS := (H.maskR [false, true, true])
    refine hK _ _ (.inr hS) ?_
    clear hK K
    simp only [nrm]
    refine wpM_next hOps rfl rfl ?_
    intro K hK
    refine wp_lapp_one el_u8 _ under_bytes8 _ _ rfl (v := .slice a l q) rfl (H.pull 2 rfl) rfl 0 rfl rfl (by rw [← HL.out]; simp only [maxLen]; omega) (by rw [← HL.out]; omega) (fun b' q' w' H => ?_)
    refine hK _ _ (.inl (by decide)) ?_
    clear hK K
    simp only [nrm]
    iterate 2 refine fm hOps ?_
    refine wpM_next hOps rfl rfl ?_
    intro K hK
    refine wp_store_sl 33 _ _ rfl (off := 0) (v := .slice b' (X ++ [x]).length q') rfl rfl (by kernel_rfl) rfl 2 H rfl (by show 0 < 1; omega) (fun w' (H : At w0 (lrow 5 1 c8 (.slice b' (X ++ [x]).length q') (X ++ [x]) :: raw C (c8 x).toArray 5 :: raw p #[.slice b' (X ++ [x]).length q'] 172 :: F) w') => ?_)
    refine hK _ _ (.inl (by decide)) ?_
    clear hK K
    simp only [nrm]
    refine wpM_end ?_
    clear hOps hS ops
    replace H : At w0 (wri p (bs ++ (D ++ [x])) :: F) w' := by
     rw [HX.out, List.append_assoc] at H
     exact wri_close rfl ((H.maskR [true, false, true]).pull 1 rfl)
    go_wp2_with fail
    first
     | (refine ⟨?_, ?measure⟩; iterate 220 (try apply Exists.intro); refine ⟨?rel, rfl⟩)
     | refine ⟨?rel, ?measure⟩
    case rel => exact ⟨d, D ++ [x], by omega, rfl, HD2.out, HD3.out, H⟩
    case measure => first | (simp [intOf]; done) | (simp [intOf]; omega)
set_option maxRecDepth 10000 in
set_option maxHeartbeats 1000000 in
theorem put32_c {w0 w : World} {F : List SP} {p n size : Nat} {bs : List (BitVec 8)} (H : At w0 (wri p bs :: F) w) (hs : size ≤ 8) (hn : (n : Int) < 18446744073709551616) (hb : bs.length ≤ 1000000000) :
    Calls Tryz.prog 105 #[.pointer (some ⟨p, 0, none⟩), .int .u32 n, .int .i64 size] w fun e w' => e = .returned (.pointer (some ⟨p, 0, none⟩)) ∧ At w0 (wri p (bs ++ beN size n) :: F) w' := by
 have hw : IntKind.u64.wrap (n : Int) = n := by rw [IntKind.wrap_u64]; omega
 have HB := Lib.hid hb
 obtain ⟨R, hR⟩ : ∃ R, R = bs ++ beN size n := ⟨_, rfl⟩
 rw [← hR]
 have HR := Lib.hid hR
 have hsi : (size : Int) ≤ 8 := by omega
 clear hn hb hR
 go_enter Tryz.func105, Tryz.ntmps105
 go_wp2_with fail
 go_loopw [7] (fun i wr => ∃ c : Nat, ∃ D : List (BitVec 8), c ≤ size ∧ i = .int .i64 ((c : Int) - 1) ∧ D ++ beN c n = beN size n ∧ D.length = size - c ∧ At w0 (wri p (bs ++ D) :: F) wr) (fun i _ => (intOf i + 1).toNat)
 case atStart => exact ⟨size, [], Nat.le_refl _, rfl, rfl, by simp, by simpa using H⟩
 case round =>
  clear H
  obtain ⟨c, D, hc, rfl, hD, hDl, H⟩ := hrel
  have HD := Lib.hid hD
  have HDL := Lib.hid hDl
  clear hD hDl
  by_cases h0 : c = 0
  · subst h0
    have hfin : At w0 (wri p R :: F) wr := by
     rw [HR.out, ← HD.out]
     simpa [beN] using H
    clear H
    go_wp2_with fail
    go_ret
    exact ⟨rfl, hfin⟩
  · obtain ⟨d, rfl⟩ : ∃ d, c = d + 1 := ⟨c - 1, by omega⟩
    clear h0
    have ed : ((d + 1 : Nat) : Int) - 1 = (d : Int) := by omega
    have hd7 : (d : Int) ≤ 7 := by omega
    rw [ed]
    obtain ⟨e, he⟩ : ∃ e, e = 8 * d := ⟨_, rfl⟩
    have ee : 8 * (d : Int) = (e : Int) := by omega
    have heb : (e : Int) ≤ 56 := by omega
    have ew : IntKind.i64.wrap (e : Int) = e := by rw [IntKind.wrap_i64]; omega
    obtain ⟨x, hx⟩ : ∃ x : BitVec 8, x = BitVec.ofNat 8 (n >>> e) := ⟨_, rfl⟩
    obtain ⟨m, hm⟩ : ∃ m, m = n >>> e := ⟨_, rfl⟩
    have e4 : (n : Int) / 2 ^ e = (m : Int) := by rw [hm, Nat.shiftRight_eq_div_pow]; simp
    have e5 : IntKind.u8.wrap (m : Int) = iv x := by rw [hx, hm, wrap8]; unfold iv; rw [BitVec.toNat_ofNat]; omega
    have hD2 : (D ++ [x]) ++ beN d n = beN size n := by rw [← HD.out, hx, he, List.append_assoc]; rfl
    have hD3 : (D ++ [x]).length = size - d := by rw [List.length_append, HDL.out]; show _ + 1 = _; omega
    have hbl : (bs ++ D).length ≤ 1000000010 := by rw [List.length_append, HDL.out]; have := HB.out; omega
    obtain ⟨a, q, H⟩ := wri_open H
    obtain ⟨X, hX⟩ : ∃ X, X = bs ++ D := ⟨_, rfl⟩
    rw [← hX] at H hbl
    obtain ⟨l, hl⟩ : ∃ l, l = X.length := ⟨_, rfl⟩
    rw [← hl] at H hbl
    have HL := Lib.hid hl
    have HX := Lib.hid hX
    have HD2 := Lib.hid hD2
    have HD3 := Lib.hid hD3
    clear HD HDL hx hm he hD2 hD3 hX hl
    go_wp2_with fail
    refine wpM_begin [12, 15] ((At w0 (raw p #[.slice a l q] 172 :: lrow 5 1 c8 (.slice a l q) X :: F))) [(0, 2), (1, 2), (2, 2), (3, 2), (4, 1), (5, 2), (6, 2), (7, 2), (8, 2), (9, 2), (10, 2), (11, 0), (12, 0), (13, 2), (14, 2), (15, 0)] rfl (by kernel_rfl) (by kernel_rfl) ((H.drew)) ?_
    intro ops hOps hS
    replace H := H.drew
    iterate 4 refine fm hOps ?_
    refine tm hOps hS (fun w hw => at_raw hw 0 rfl (cs := [.slice a l q]) rfl) ?_
    iterate 6 refine fm hOps ?_
    refine wpM_next hOps rfl rfl ?_
    intro K hK
    refine wp_lbuild el_u8 _ under_bytes8 _ rfl rfl (y := x) rfl (by decide) (by decide) H (fun C w' H => ?_)
    have hS := (H.maskR [false, true, true])
    refine hK _ _ (.inr hS) ?_
    clear hK K
    simp only [nrm]
    refine wpM_next hOps rfl rfl ?_
    intro K hK
    refine wp_lapp_one el_u8 _ under_bytes8 _ _ rfl (v := .slice a l q) rfl (H.pull 2 rfl) rfl 0 rfl rfl (by rw [← HL.out]; simp only [maxLen]; omega) (by rw [← HL.out]; omega) (fun b' q' w' H => ?_)
    refine hK _ _ (.inl (by decide)) ?_
    clear hK K
    simp only [nrm]
    iterate 2 refine fm hOps ?_
    refine wpM_next hOps rfl rfl ?_
    intro K hK
    refine wp_store_sl 33 _ _ rfl (off := 0) (v := .slice b' (X ++ [x]).length q') rfl rfl (by kernel_rfl) rfl 2 H rfl (by show 0 < 1; omega) (fun w' (H : At w0 (lrow 5 1 c8 (.slice b' (X ++ [x]).length q') (X ++ [x]) :: raw C (c8 x).toArray 5 :: raw p #[.slice b' (X ++ [x]).length q'] 172 :: F) w') => ?_)
    refine hK _ _ (.inl (by decide)) ?_
    clear hK K
    simp only [nrm]
    refine wpM_end ?_
    clear hOps hS ops
    replace H : At w0 (wri p (bs ++ (D ++ [x])) :: F) w' := by
     rw [HX.out, List.append_assoc] at H
     exact wri_close rfl ((H.maskR [true, false, true]).pull 1 rfl)
    go_wp2_with fail
    first
     | (refine ⟨?_, ?measure⟩; iterate 220 (try apply Exists.intro); refine ⟨?rel, rfl⟩)
     | refine ⟨?rel, ?measure⟩
    case rel => exact ⟨d, D ++ [x], by omega, rfl, HD2.out, HD3.out, H⟩
    case measure => first | (simp [intOf]; done) | (simp [intOf]; omega)
set_option maxRecDepth 10000 in
set_option maxHeartbeats 1000000 in
theorem put64_c {w0 w : World} {F : List SP} {p n size : Nat} {bs : List (BitVec 8)} (H : At w0 (wri p bs :: F) w) (hs : size ≤ 8) (hn : (n : Int) < 18446744073709551616) (hb : bs.length ≤ 1000000000) :
    Calls Tryz.prog 161 #[.pointer (some ⟨p, 0, none⟩), .int .u64 n, .int .i64 size] w fun e w' => e = .returned (.pointer (some ⟨p, 0, none⟩)) ∧ At w0 (wri p (bs ++ beN size n) :: F) w' := by
 have hw : IntKind.u64.wrap (n : Int) = n := by rw [IntKind.wrap_u64]; omega
 have HB := Lib.hid hb
 obtain ⟨R, hR⟩ : ∃ R, R = bs ++ beN size n := ⟨_, rfl⟩
 rw [← hR]
 have HR := Lib.hid hR
 have hsi : (size : Int) ≤ 8 := by omega
 clear hn hb hR
 go_enter Tryz.func161, Tryz.ntmps161
 go_wp2_with fail
 go_loopw [7] (fun i wr => ∃ c : Nat, ∃ D : List (BitVec 8), c ≤ size ∧ i = .int .i64 ((c : Int) - 1) ∧ D ++ beN c n = beN size n ∧ D.length = size - c ∧ At w0 (wri p (bs ++ D) :: F) wr) (fun i _ => (intOf i + 1).toNat)
 case atStart => exact ⟨size, [], Nat.le_refl _, rfl, rfl, by simp, by simpa using H⟩
 case round =>
  clear H
  obtain ⟨c, D, hc, rfl, hD, hDl, H⟩ := hrel
  have HD := Lib.hid hD
  have HDL := Lib.hid hDl
  clear hD hDl
  by_cases h0 : c = 0
  · subst h0
    have hfin : At w0 (wri p R :: F) wr := by
     rw [HR.out, ← HD.out]
     simpa [beN] using H
    clear H
    go_wp2_with fail
    go_ret
    exact ⟨rfl, hfin⟩
  · obtain ⟨d, rfl⟩ : ∃ d, c = d + 1 := ⟨c - 1, by omega⟩
    clear h0
    have ed : ((d + 1 : Nat) : Int) - 1 = (d : Int) := by omega
    have hd7 : (d : Int) ≤ 7 := by omega
    rw [ed]
    obtain ⟨e, he⟩ : ∃ e, e = 8 * d := ⟨_, rfl⟩
    have ee : 8 * (d : Int) = (e : Int) := by omega
    have heb : (e : Int) ≤ 56 := by omega
    have ew : IntKind.i64.wrap (e : Int) = e := by rw [IntKind.wrap_i64]; omega
    obtain ⟨x, hx⟩ : ∃ x : BitVec 8, x = BitVec.ofNat 8 (n >>> e) := ⟨_, rfl⟩
    obtain ⟨m, hm⟩ : ∃ m, m = n >>> e := ⟨_, rfl⟩
    have e4 : (n : Int) / 2 ^ e = (m : Int) := by rw [hm, Nat.shiftRight_eq_div_pow]; simp
    have e5 : IntKind.u8.wrap (m : Int) = iv x := by rw [hx, hm, wrap8]; unfold iv; rw [BitVec.toNat_ofNat]; omega
    have hD2 : (D ++ [x]) ++ beN d n = beN size n := by rw [← HD.out, hx, he, List.append_assoc]; rfl
    have hD3 : (D ++ [x]).length = size - d := by rw [List.length_append, HDL.out]; show _ + 1 = _; omega
    have hbl : (bs ++ D).length ≤ 1000000010 := by rw [List.length_append, HDL.out]; have := HB.out; omega
    obtain ⟨a, q, H⟩ := wri_open H
    obtain ⟨X, hX⟩ : ∃ X, X = bs ++ D := ⟨_, rfl⟩
    rw [← hX] at H hbl
    obtain ⟨l, hl⟩ : ∃ l, l = X.length := ⟨_, rfl⟩
    rw [← hl] at H hbl
    have HL := Lib.hid hl
    have HX := Lib.hid hX
    have HD2 := Lib.hid hD2
    have HD3 := Lib.hid hD3
    clear HD HDL hx hm he hD2 hD3 hX hl
    go_wp2_with fail
    refine wpM_begin [11, 14] ((At w0 (raw p #[.slice a l q] 172 :: lrow 5 1 c8 (.slice a l q) X :: F))) [(0, 2), (1, 2), (2, 2), (3, 2), (4, 1), (5, 2), (6, 2), (7, 2), (8, 2), (9, 2), (10, 0), (11, 0), (12, 2), (13, 2), (14, 0)] rfl (by kernel_rfl) (by kernel_rfl) ((H.drew)) ?_
    intro ops hOps hS
    replace H := H.drew
    iterate 4 refine fm hOps ?_
    refine tm hOps hS (fun w hw => at_raw hw 0 rfl (cs := [.slice a l q]) rfl) ?_
    iterate 5 refine fm hOps ?_
    refine wpM_next hOps rfl rfl ?_
    intro K hK
    refine wp_lbuild el_u8 _ under_bytes8 _ rfl rfl (y := x) rfl (by decide) (by decide) H (fun C w' H => ?_)
    have hS := (H.maskR [false, true, true])
    refine hK _ _ (.inr hS) ?_
    clear hK K
    simp only [nrm]
    refine wpM_next hOps rfl rfl ?_
    intro K hK
    refine wp_lapp_one el_u8 _ under_bytes8 _ _ rfl (v := .slice a l q) rfl (H.pull 2 rfl) rfl 0 rfl rfl (by rw [← HL.out]; simp only [maxLen]; omega) (by rw [← HL.out]; omega) (fun b' q' w' H => ?_)
    refine hK _ _ (.inl (by decide)) ?_
    clear hK K
    simp only [nrm]
    iterate 2 refine fm hOps ?_
    refine wpM_next hOps rfl rfl ?_
    intro K hK
    refine wp_store_sl 33 _ _ rfl (off := 0) (v := .slice b' (X ++ [x]).length q') rfl rfl (by kernel_rfl) rfl 2 H rfl (by show 0 < 1; omega) (fun w' (H : At w0 (lrow 5 1 c8 (.slice b' (X ++ [x]).length q') (X ++ [x]) :: raw C (c8 x).toArray 5 :: raw p #[.slice b' (X ++ [x]).length q'] 172 :: F) w') => ?_)
    refine hK _ _ (.inl (by decide)) ?_
    clear hK K
    simp only [nrm]
    refine wpM_end ?_
    clear hOps hS ops
    replace H : At w0 (wri p (bs ++ (D ++ [x])) :: F) w' := by
     rw [HX.out, List.append_assoc] at H
     exact wri_close rfl ((H.maskR [true, false, true]).pull 1 rfl)
    go_wp2_with fail
    first
     | (refine ⟨?_, ?measure⟩; iterate 220 (try apply Exists.intro); refine ⟨?rel, rfl⟩)
     | refine ⟨?rel, ?measure⟩
    case rel => exact ⟨d, D ++ [x], by omega, rfl, HD2.out, HD3.out, H⟩
    case measure => first | (simp [intOf]; done) | (simp [intOf]; omega)
set_option maxRecDepth 10000 in
theorem wu8_c {w0 w : World} {F : List SP} {p n : Nat} {bs : List (BitVec 8)} (H : At w0 (wri p bs :: F) w) (hn : (n : Int) < 18446744073709551616) (hb : bs.length ≤ 1000000000) :
    Calls Tryz.prog 153 #[.pointer (some ⟨p, 0, none⟩), .int .u8 n] w fun e w' => e = .returned (.pointer (some ⟨p, 0, none⟩)) ∧ At w0 (wri p (bs ++ beN 1 n) :: F) w' := by
 have HN := Lib.hid hn
 clear hn
 go_enter Tryz.func153, Tryz.ntmps153
 go_wp2_with fail
 refine (put8_c (size := 1) H (by omega) HN.out hb).mono ?_; rintro e w' ⟨rfl, H⟩
 go_wp2_with fail
 go_ret
 exact ⟨rfl, H⟩
set_option maxRecDepth 10000 in
theorem wu16_c {w0 w : World} {F : List SP} {p n : Nat} {bs : List (BitVec 8)} (H : At w0 (wri p bs :: F) w) (hn : (n : Int) < 18446744073709551616) (hb : bs.length ≤ 1000000000) :
    Calls Tryz.prog 72 #[.pointer (some ⟨p, 0, none⟩), .int .u16 n] w fun e w' => e = .returned (.pointer (some ⟨p, 0, none⟩)) ∧ At w0 (wri p (bs ++ beN 2 n) :: F) w' := by
 have HN := Lib.hid hn
 clear hn
 go_enter Tryz.func72, Tryz.ntmps72
 go_wp2_with fail
 refine (put16_c (size := 2) H (by omega) HN.out hb).mono ?_; rintro e w' ⟨rfl, H⟩
 go_wp2_with fail
 go_ret
 exact ⟨rfl, H⟩
set_option maxRecDepth 10000 in
theorem wu32_c {w0 w : World} {F : List SP} {p n : Nat} {bs : List (BitVec 8)} (H : At w0 (wri p bs :: F) w) (hn : (n : Int) < 18446744073709551616) (hb : bs.length ≤ 1000000000) :
    Calls Tryz.prog 73 #[.pointer (some ⟨p, 0, none⟩), .int .u32 n] w fun e w' => e = .returned (.pointer (some ⟨p, 0, none⟩)) ∧ At w0 (wri p (bs ++ beN 4 n) :: F) w' := by
 have HN := Lib.hid hn
 clear hn
 go_enter Tryz.func73, Tryz.ntmps73
 go_wp2_with fail
 refine (put32_c (size := 4) H (by omega) HN.out hb).mono ?_; rintro e w' ⟨rfl, H⟩
 go_wp2_with fail
 go_ret
 exact ⟨rfl, H⟩
set_option maxRecDepth 10000 in
theorem wu64_c {w0 w : World} {F : List SP} {p n : Nat} {bs : List (BitVec 8)} (H : At w0 (wri p bs :: F) w) (hn : (n : Int) < 18446744073709551616) (hb : bs.length ≤ 1000000000) :
    Calls Tryz.prog 154 #[.pointer (some ⟨p, 0, none⟩), .int .u64 n] w fun e w' => e = .returned (.pointer (some ⟨p, 0, none⟩)) ∧ At w0 (wri p (bs ++ beN 8 n) :: F) w' := by
 have HN := Lib.hid hn
 clear hn
 go_enter Tryz.func154, Tryz.ntmps154
 go_wp2_with fail
 refine (put64_c (size := 8) H (by omega) HN.out hb).mono ?_; rintro e w' ⟨rfl, H⟩
 go_wp2_with fail
 go_ret
 exact ⟨rfl, H⟩
set_option maxRecDepth 10000 in
set_option maxHeartbeats 1000000 in
theorem wbytes_c {w0 w : World} {F : List SP} {p : Nat} {bs xs : List (BitVec 8)} {v : Value} (H : At w0 (wri p bs :: F) w) (hv : SeeB w0 F v xs) (hb : bs.length + xs.length ≤ 1000000000) :
    Calls Tryz.prog 74 #[.pointer (some ⟨p, 0, none⟩), v] w fun e w' => e = .returned (.pointer (some ⟨p, 0, none⟩)) ∧ At w0 (wri p (bs ++ xs) :: F) w' := by
 obtain ⟨a, q, H⟩ := wri_open H
 obtain ⟨l, hl⟩ : ∃ l, l = bs.length := ⟨_, rfl⟩
 rw [← hl] at H
 have HL := Lib.hid hl
 have HB := Lib.hid hb
 obtain ⟨va, vc, rfl, _, _⟩ := hv.slice
 obtain ⟨m, hm⟩ : ∃ m, m = xs.length := ⟨_, rfl⟩
 rw [← hm] at hv
 rw [← hm]
 have HM := Lib.hid hm
 clear hl hb hm
 go_enter Tryz.func74, Tryz.ntmps74
 go_wp2_with ((with_reducible refine wpList_op rfl ?_); intro _ hK; first
  | (refine wp_get 33 _ rfl rfl (by kernel_rfl) (at_raw H 0 rfl (cs := [.slice a l q]) rfl) (hK _ _ ?_))
  | (refine wp_lapp el_u8 _ _ under_bytes8 (.inl ⟨_, under_bytes8⟩) _ _ rfl (v := .slice a l q) rfl (H.pull 1 rfl) (x := .slice va m vc) rfl (hv.src el_u8 H.tail.tail) (by simp only [maxLen]; have := HB.out; omega) (by have := HB.out; omega) (fun b' q' w' H => ?_); obtain ⟨n2, hn2⟩ : ∃ n2, n2 = (bs ++ xs).length := ⟨_, rfl⟩; rw [← hn2] at H ⊢; have HN2 := Lib.hid hn2; clear hn2; replace H : At w0 (lrow 5 1 c8 (.slice b' n2 q') (bs ++ xs) :: raw p #[.slice a l q] 172 :: F) w' := H; refine hK _ _ ?_)
  | (refine wp_store_sl 33 _ _ rfl (off := 0) (v := .slice b' n2 q') rfl rfl (by kernel_rfl) rfl 1 H rfl (by show 0 < 1; omega) (fun w' (H : At w0 (lrow 5 1 c8 (.slice b' n2 q') (bs ++ xs) :: raw p #[.slice b' n2 q'] 172 :: F) w') => hK _ _ ?_)))
 replace H : At w0 (wri p (bs ++ xs) :: F) w' := wri_close HN2.out (H.pull 1 rfl)
 go_wp2_with fail
 go_ret
 exact ⟨rfl, H⟩
theorem info_u8w : (Tryz.prog.info? 5).map (fun i => (i.zero, i.size, i.bytes)) = some (some (.int .u8 0), 1, 1) := by kernel_rfl
set_option maxRecDepth 10000 in
theorem wzeros_c {w0 w : World} {F : List SP} {p n : Nat} {bs : List (BitVec 8)} (H : At w0 (wri p bs :: F) w) (hb : bs.length + n ≤ 1000000000) :
    Calls Tryz.prog 155 #[.pointer (some ⟨p, 0, none⟩), .int .i64 n] w fun e w' => e = .returned (.pointer (some ⟨p, 0, none⟩)) ∧ At w0 (wri p (bs ++ zs n) :: F) w' := by
 have hm : (if (n : Int) < 0 then (0 : Int) else (n : Int)) = n := if_neg (by omega)
 have hn : (n : Int) ≤ 1000000000 := by omega
 have HB := Lib.hid hb
 clear hb
 go_enter Tryz.func155, Tryz.ntmps155
 go_wp2_with ((with_reducible refine wpList_op rfl ?_); intro _ hK; refine wp_lmake el_u8 33 _ _ rfl under_bytes8 info_u8w (x := (0 : BitVec 8)) rfl rfl (n := n) (cap := n) rfl rfl (Nat.le_refl _) (by simp only [maxLen]; have := HB.out; omega) (by have := HB.out; omega) H (fun B w' (H : At w0 (lrow 5 1 c8 (.slice (some ⟨B, 0, none⟩) n n) (zs n) :: wri p bs :: F) w') => hK _ _ ?_))
 refine (wbytes_c (H.pull 1 rfl) (see_own el_u8 (H.pull 1 rfl).tail 0 (zs_length n).symm rfl) (by rw [zs_length]; exact HB.out)).mono ?_; rintro e w' ⟨rfl, H⟩
 go_wp2_with fail
 go_ret
 exact ⟨rfl, H.maskR [true, false]⟩
def NewB (w0 : World) (F : List SP) (bs : List (BitVec 8)) (e : Ending) (w' : World) : Prop := ∃ a q, e = .returned (.slice a bs.length q) ∧ At w0 (lrow 5 1 c8 (.slice a bs.length q) bs :: F) w'
set_option maxRecDepth 10000 in
theorem clone_c {w0 w : World} {F : List SP} {bs : List (BitVec 8)} {v : Value} (H : At w0 F w) (hv : SeeB w0 F v bs) (hb : bs.length ≤ 1000000000) :
    Calls Tryz.prog 106 #[v] w (NewB w0 F bs) := by
 have hnil := Lib.run_eql_slice_nil (P := Tryz.prog)
 obtain ⟨va, vc, rfl, hvc, _⟩ := hv.slice
 have hz := (hv.cells H).2.2.1
 obtain ⟨m, hm⟩ : ∃ m, m = bs.length := ⟨_, rfl⟩
 rw [← hm] at hv hvc hb
 rw [← hm]
 have HM := Lib.hid hm
 have HB := Lib.hid hb
 cases va with
 | none =>
  have h0 : vc = 0 := hz rfl
  have hm0 : m = 0 := by omega
  have hbs : bs = [] := List.eq_nil_of_length_eq_zero (by omega)
  clear hm hb hvc hz
  subst h0
  subst hm0
  have HBS := Lib.hid hbs
  clear hbs
  go_enter Tryz.func106, Tryz.ntmps106
  go_wp2_with fail
  go_ret
  refine ⟨none, 0, by rw [HBS.out]; rfl, ?_⟩
  rw [HBS.out]
  exact lrow_nil H c8 5 1
 | some va =>
  clear hm hb hvc hz
  go_enter Tryz.func106, Tryz.ntmps106
  go_wp2_with ((with_reducible refine wpList_op rfl ?_); intro _ hK; first
   | (refine wp_lnew el_u8 _ under_bytes8 rfl H (fun B w' (H : At w0 (lrow 5 1 c8 (.slice (some ⟨B, 0, none⟩) 0 0) ([] : List (BitVec 8)) :: F) w') => hK _ _ ?_))
   | (refine wp_lapp el_u8 _ _ under_bytes8 (.inl ⟨_, under_bytes8⟩) _ _ rfl (xs := []) (ys := bs) rfl H (x := .slice (some va) m vc) rfl (hv.src el_u8 H.tail) (by simp only [maxLen, List.length_nil]; have := HB.out; have := HM.out; omega) (by simp only [List.length_nil]; have := HB.out; have := HM.out; omega) (fun b' q' w' H => ?_); rw [List.nil_append] at H ⊢; obtain ⟨n2, hn2⟩ : ∃ n2, n2 = bs.length := ⟨_, rfl⟩; rw [← hn2] at H ⊢; have HN2 := Lib.hid hn2; clear hn2; refine hK _ _ ?_))
  go_ret
  exact ⟨b', q', by rw [HN2.out]; rfl, by rw [← HN2.out]; exact H⟩
set_option maxRecDepth 10000 in
theorem wdone_c {w0 w : World} {F : List SP} {p : Nat} {bs : List (BitVec 8)} (H : At w0 (wri p bs :: F) w) (hb : bs.length ≤ 1000000000) :
    Calls Tryz.prog 75 #[.pointer (some ⟨p, 0, none⟩)] w (NewB w0 (wri p bs :: F) bs) := by
 obtain ⟨a, q, H⟩ := wri_open H
 obtain ⟨l, hl⟩ : ∃ l, l = bs.length := ⟨_, rfl⟩
 rw [← hl] at H
 have HL := Lib.hid hl
 have HB := Lib.hid hb
 clear hl hb
 go_enter Tryz.func75, Tryz.ntmps75
 go_wp2_with ((with_reducible refine wpList_op rfl ?_); intro _ hK; refine wp_get 33 _ rfl rfl (by kernel_rfl) (at_raw H 0 rfl (cs := [.slice a l q]) rfl) (hK _ _ ?_))
 refine (clone_c H (see_own el_u8 H 1 HL.out rfl) HB.out).mono ?_; rintro e w' ⟨a2, q2, rfl, H⟩
 obtain ⟨n2, hn2⟩ : ∃ n2, n2 = bs.length := ⟨_, rfl⟩
 rw [← hn2] at H ⊢
 have HN2 := Lib.hid hn2
 clear hn2
 go_wp2_with fail
 go_ret
 refine ⟨a2, q2, by rw [HN2.out]; rfl, ?_⟩
 rw [← HN2.out]
 have H3 := wri_close HL.out (((H.pull 1 rfl).pull 2 rfl).pull 1 rfl)
 exact H3.pull 1 rfl
end Go.Proofs.YtmflbekabkainaaGreatDoor
