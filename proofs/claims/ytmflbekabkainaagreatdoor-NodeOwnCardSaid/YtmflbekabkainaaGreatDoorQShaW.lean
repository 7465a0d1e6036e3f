import Derived.Test.YtmflbekabkainaaGreatDoorQMix
import Derived.Test.YtmflbekabkainaaGreatDoorQHgC
set_option linter.unusedVariables false
set_option linter.unusedSimpArgs false
namespace Go.Proofs.YtmflbekabkainaaGreatDoor
open Go.RowKit Go.Hg
theorem el_u8 : El Tryz.prog 5 1 1 c8 := ⟨⟨.int .u8 0, by kernel_rfl, rfl⟩, fun _ => rfl, fun x u hu => by simp [c8] at hu; subst hu; rfl⟩
theorem under_bytes : Tryz.prog.underlying 33 = some (.slice (Tryz.prog.elem 33)) := by kernel_rfl
theorem under_bytes8 : Tryz.prog.underlying 33 = some (.slice 5) := by kernel_rfl
theorem elem_bytes : Tryz.prog.elem 33 = 5 := by kernel_rfl
def strmM (p : Nat) (M : List (BitVec 8)) : SP := fun hp => ∃ b h part, OkS b h part M ∧ strm p b h part M.length hp
theorem strm_open {w0 w : World} {F : List SP} {p : Nat} {M : List (BitVec 8)} (H : At w0 (strmM p M :: F) w) : ∃ b h part, OkS b h part M ∧ At w0 (strm p b h part M.length :: F) w := by
 obtain ⟨bel, h, ⟨h1, h2, ⟨b, hh, part, ok, p⟩, q, r⟩, t, u⟩ := H
 exact ⟨b, hh, part, ok, bel, h, ⟨h1, h2, p, q, r⟩, t, u⟩
theorem strm_close {w0 w : World} {F : List SP} {p n : Nat} {M : List (BitVec 8)} {b : Bool} {h : List (BitVec 32)} {part : List (BitVec 8)} (O : OkS b h part M) (hn : n = M.length) (H : At w0 (strm p b h part n :: F) w) : At w0 (strmM p M :: F) w := by
 subst hn
 exact H.imp1 fun _ q => ⟨b, h, part, O, q⟩
theorem stC_set_b {b b' : Bool} {h : List (BitVec 32)} {part : List (BitVec 8)} {n : Nat} : (stC b h part n).toArray.setIfInBounds 0 (.bool b') = (stC b' h part n).toArray := by
 apply Array.ext'
 rw [Array.toList_setIfInBounds]
 rfl
theorem stC_put_h {b : Bool} {h h' : List (BitVec 32)} {part : List (BitVec 8)} {n : Nat} (hl : h.length = 8) (hl' : h'.length = 8) : (stC b h part n).toArray.toList.take 1 ++ v32 h' ++ (stC b h part n).toArray.toList.drop (1 + (v32 h').length) = stC b h' part n := by
 have e : stC b h part n = Value.bool b :: (v32 h ++ (v8 part ++ [.int .u64 (n : Int)])) := by simp [stC]
 show (stC b h part n).take 1 ++ v32 h' ++ (stC b h part n).drop (1 + (v32 h').length) = _
 have h8 : (v32 h').length = (v32 h).length := by rw [v32_length, v32_length, hl, hl']
 rw [e, h8, Nat.add_comm 1, List.drop_succ_cons, List.drop_left]
 simp [stC]
theorem stC_put_p {b : Bool} {h : List (BitVec 32)} {part X : List (BitVec 8)} {r n : Nat} (hl : h.length = 8) (hp : part.length = 64) (hx : r + X.length ≤ 64) : (stC b h part n).take (9 + r) ++ v8 X ++ (stC b h part n).drop (9 + r + (v8 X).length) = stC b h (putP part r X) n := by
 have e : stC b h part n = ([Value.bool b] ++ v32 h) ++ (v8 part ++ [.int .u64 (n : Int)]) := by simp [stC]
 have h9 : ([Value.bool b] ++ v32 h).length = 9 := by simp [v32_length, hl]
 have hr : r ≤ (v8 part).length := by rw [v8_length, hp]; omega
 have hr2 : r + (v8 X).length ≤ (v8 part).length := by rw [v8_length, v8_length, hp]; omega
 rw [e, Nat.add_assoc, ← h9, List.take_length_add_append, List.drop_length_add_append, List.take_append_of_le_length hr, List.drop_append_of_le_length hr2]
 simp [stC, putP_v8]
theorem stC_set_n {b : Bool} {h : List (BitVec 32)} {part : List (BitVec 8)} {n m : Nat} (hl : h.length = 8) (hp : part.length = 64) : (stC b h part n).toArray.setIfInBounds 73 (.int .u64 (m : Int)) = (stC b h part m).toArray := by
 apply Array.ext'
 rw [Array.toList_setIfInBounds]
 show (stC b h part n).set 73 _ = stC b h part m
 unfold stC
 rw [List.set_append_right _ _ (by simp [v32_length, v8_length, hl, hp])]
 have e : 73 - ([Value.bool b] ++ v32 h ++ v8 part).length = 0 := by simp [v32_length, v8_length, hl, hp]
 rw [e]
 rfl
set_option maxRecDepth 10000 in
set_option maxHeartbeats 1000000 in
theorem begin_c {w0 w : World} {F : List SP} {p n : Nat} {b : Bool} {hs : List (BitVec 32)} {part : List (BitVec 8)} (G : Glob w0) (H : At w0 (strm p b hs part n :: F) w) (hl : hs.length = 8) (hp : part.length = 64) :
    Calls Tryz.prog 157 #[.pointer (some ⟨p, 0, none⟩)] w fun e w' => e = .returned (.tuple #[]) ∧ At w0 (strm p true (if b then hs else H0) part n :: F) w' := by
 have hc : (stC b hs part n)[0]? = some (.bool b) := rfl
 cases b with
 | true =>
  go_enter Tryz.func157, Tryz.ntmps157
  go_wp2_with ((with_reducible refine wpList_op rfl ?_); intro _ hK; refine wp_get 4 _ rfl rfl (by kernel_rfl) (at_raw H 0 rfl hc) (hK _ _ ?_))
  go_end0
  exact ⟨rfl, H⟩
 | false =>
  go_enter Tryz.func157, Tryz.ntmps157
  go_wp2_with ((with_reducible refine wpList_op rfl ?_); intro _ hK; first
   | (refine wp_get 4 _ rfl rfl (by kernel_rfl) (at_raw H 0 rfl hc) (hK _ _ ?_))
   | (refine wp_mid 252 _ rfl rfl (v32 H0) (by kernel_rfl) (by kernel_rfl) (at_range H G.first) (hK _ _ ?_))
   | (refine wp_store_sl 4 _ _ rfl (off := 0) (v := .bool true) rfl rfl (by kernel_rfl) rfl 0 H rfl (by rw [List.size_toArray, stC_length hl hp]; omega) (fun w' H => ?_); rw [stC_set_b] at H; replace H : At w0 (strm p true hs part n :: F) w' := H; refine hK _ _ ?_)
   | (refine wp_store_mid_sl 252 _ _ rfl (off := 1) (cells := v32 H0) rfl rfl (by kernel_rfl) (v32_one _) 0 H rfl (by rw [List.size_toArray, stC_length hl hp]; decide) (fun w' H => ?_); rw [stC_put_h hl rfl] at H; replace H : At w0 (strm p true H0 part n :: F) w' := H; refine hK _ _ ?_))
  go_end0
  exact ⟨rfl, H⟩
set_option maxRecDepth 10000 in
set_option maxHeartbeats 1000000 in
theorem write_c {w0 w : World} {F : List SP} {p : Nat} {M bs : List (BitVec 8)} {v : Value} (G : Glob w0) (H : At w0 (strmM p M :: F) w) (hv : SeeB w0 F v bs) (hlen : M.length + bs.length ≤ 1000000000000) :
    Calls Tryz.prog 143 #[.pointer (some ⟨p, 0, none⟩), v] w fun e w' => e = .returned (.tuple #[]) ∧ At w0 (strmM p (M ++ bs) :: F) w' := by
 obtain ⟨b, hs, part, O, H⟩ := strm_open H
 have hO := Lib.hid O.begun
 have HL := Lib.hid hlen
 obtain ⟨n, hn⟩ : ∃ n, n = M.length := ⟨_, rfl⟩
 rw [← hn] at H
 have HN := Lib.hid hn
 have hv1 := hv.one
 obtain ⟨N, hN⟩ : ∃ N, N = M ++ bs := ⟨_, rfl⟩
 rw [← hN]
 have HNN := Lib.hid hN
 have hl := Lib.hid O.hl
 have hp := Lib.hid O.pl
 clear hn hlen hN O
 go_enter Tryz.func143, Tryz.ntmps143
 go_wp2_with fail
 refine (begin_c G H hl.out hp.out).mono ?_; rintro e w' ⟨rfl, H⟩
 clear hl hp
 go_wp2_with fail
 go_loopw [1] (fun v wr => ∃ j h part, j ≤ bs.length ∧ SeeB w0 F v (bs.drop j) ∧ OkS true h part (M ++ bs.take j) ∧ At w0 (strm p true h part (n + j) :: F) wr) (fun v _ => slen v)
 case atStart => exact ⟨0, _, _, Nat.zero_le _, hv, by simpa using hO.out, by simpa using H⟩
 case round =>
  clear H hO hv hv1
  obtain ⟨j, hs, part, hj, hv, O, H⟩ := hrel
  obtain ⟨a, cap, rfl, hcap, hsome⟩ := hv.slice
  have hO := Lib.hid O
  have hl := Lib.hid O.hl
  have hp := Lib.hid O.pl
  clear O
  obtain ⟨ys, hys⟩ : ∃ ys, ys = bs.drop j := ⟨_, rfl⟩
  rw [← hys] at hv hsome hcap
  have hyl : ys.length = bs.length - j := by rw [hys, List.length_drop]
  have HYS := Lib.hid hys
  rw [← hys]
  obtain ⟨q, hq⟩ : ∃ q, q = ys.length := ⟨_, rfl⟩
  rw [← hq] at hv hsome hcap hyl
  rw [← hq]
  have HQ := Lib.hid hq
  obtain ⟨m, hm⟩ : ∃ m, m = n + j := ⟨_, rfl⟩
  have hml : m = (M ++ bs.take j).length := by rw [List.length_append, List.length_take, Nat.min_eq_left hj, hm, HN.out]
  have hmb : (m : Int) ≤ 1000000000000 := by have := HL.out; have := HN.out; omega
  rw [← hm] at H
  have HM := Lib.hid hm
  have HML := Lib.hid hml
  have HYL := Lib.hid hyl
  clear hys hq hm hml hyl
  by_cases h0 : (0 : Int) < q
  · obtain ⟨r, hr⟩ : ∃ r, r = m % 64 := ⟨_, rfl⟩
    obtain ⟨k, hk⟩ : ∃ k, k = min (64 - r) q := ⟨_, rfl⟩
    obtain ⟨bb, off, rfl⟩ := hsome (by omega)
    clear hsome
    obtain ⟨v', hv', hrun⟩ := hv.from_ el_u8 under_bytes elem_bytes (k := k) (by rw [← HQ.out]; omega)
    have e1 : (m : Int) % 64 = r := by omega
    have hrb : (r : Int) < 64 := by omega
    have hrb2 : r < 64 := by omega
    have hkr : r + k ≤ 64 := by omega
    have hkr2 : (r : Int) + k ≤ 64 := by omega
    have hkq : k ≤ q := by omega
    have hk0 : 0 < k := by omega
    have hkb : (k : Int) ≤ 64 := by omega
    have ps := fun w => part_from w p r hrb2
    obtain ⟨X, hX⟩ : ∃ X, X = ys.take k := ⟨_, rfl⟩
    have hXl : X.length = k := by rw [hX, List.length_take, ← HQ.out]; omega
    have hKM : k = min q (64 - r) := by omega
    have HX := Lib.hid hX
    have HXL := Lib.hid hXl
    have HK := Lib.hid hKM
    have HR := Lib.hid hr
    have hsrc : ∀ (F' : List SP) (wr : World), At w0 (F' ++ F) wr → ∀ (i : Nat) (u : Value), (v8 X)[i]? = some u → wr.cell? (Addr.add ⟨bb, off, none⟩ i) = some u := fun F' wr Hr i u hi => by
     obtain ⟨_, _, _, _, hcells⟩ := hv.cells (Hr.weak (List.sublist_append_right F' F))
     rw [Addr.add_lit]
     refine hcells bb off rfl i u ?_
     rw [cl_c8]
     rw [HX.out] at hi
     rw [← hi]
     unfold v8
     rw [List.getElem?_map, List.getElem?_map, List.getElem?_take, if_pos]
     have := (List.getElem?_eq_some_iff.1 hi).1
     simp [v8] at this
     omega
    have HV := Lib.hid hv'
    have hsl : slen v' < slen (.slice (some ⟨bb, off, none⟩) q cap) := by
     obtain ⟨a', c', e', _⟩ := hv'.slice
     rw [e']
     show (ys.drop k).length < q
     rw [List.length_drop, ← HQ.out]
     omega
    have HSL := Lib.hid hsl
    have h64l : 64 - r ≤ 64 := by omega
    obtain ⟨m2, hm2⟩ : ∃ m2, m2 = m + k := ⟨_, rfl⟩
    have e2 : (m : Int) + (k : Int) = (m2 : Int) := by omega
    have hnext : SeeB w0 F v' (bs.drop (j + k)) := by rw [← List.drop_drop, ← HYS.out]; exact hv'
    have hMX : M ++ bs.take (j + k) = (M ++ bs.take j) ++ X := by rw [List.append_assoc, HX.out, HYS.out, List.take_add]
    have hjk : j + k ≤ bs.length := by have := HYL.out; omega
    have hm3 : m2 = n + (j + k) := by rw [hm2, HM.out]; omega
    have HNX := Lib.hid hnext
    have HMX := Lib.hid hMX
    have HM3 := Lib.hid hm3
    have HHR := Lib.hid hr
    have hm2b : (m2 : Int) ≤ 2000000000000 := by omega
    have hpp : (putP part r X).length = 64 := putP_length hp.out (by rw [HXL.out]; omega)
    have HPP := Lib.hid hpp
    clear hX hXl hKM hk hr hv hv' hsl hm2 hnext hMX hm3 hpp
    by_cases hfull : r + k = 64
    all_goals
     first
      | (have hb : ((r : Int) + (k : Int) == 64) = true := beq_iff_eq.2 (by omega); have HF := Lib.hid hfull; clear hfull)
      | (have hb : ((r : Int) + (k : Int) == 64) = false := beq_eq_false_iff_ne.2 (by omega))
     generalize hg : 64 - r = g at *
     have HG := Lib.hid hg
     clear hg
     go_wp2_with ((with_reducible refine wpList_op rfl ?_); intro _ hK; first
      | (refine wp_get 22 _ rfl rfl (by kernel_rfl) (at_raw H 0 rfl (stC_n hl.out hp.out)) (hK _ _ ?_))
      | (refine wp_copy_in (e := 5) _ _ _ _ rfl (by kernel_rfl) (by kernel_rfl) rfl rfl 0 H rfl (cs := v8 X) (by rw [v8_length, HXL.out]; exact HK.out) (hsrc [_] _ H) (by rw [v8_length, HXL.out, stC_length hl.out hp.out]; omega) (v8_one _) (fun w' H => ?_); rw [stC_put_p hl.out hp.out (by rw [HXL.out]; omega)] at H; replace H : At w0 (strm p true hs (putP part r X) m :: F) w' := H; rw [v8_length, HXL.out]; refine hK _ _ ?_)
      | (refine wp_slice 33 _ _ _ _ rfl (hrun _) (hK _ _ ?_))
      | (refine wp_get 22 _ rfl rfl (by kernel_rfl) (at_raw H 0 rfl (stC_n hl.out HPP.out)) (hK _ _ ?_))
      | (refine wp_store_sl 22 _ _ rfl (off := 73) (v := .int .u64 (m2 : Int)) rfl rfl (by kernel_rfl) rfl 0 H rfl (by rw [List.size_toArray, stC_length hl.out HPP.out]; omega) (fun w' H => ?_); rw [stC_set_n hl.out HPP.out] at H; replace H : At w0 (strm p true hs (putP part r X) m2 :: F) w' := H; refine hK _ _ ?_))
    · refine (mix_c G H hl.out HPP.out).mono ?_; rintro e w' ⟨rfl, H⟩
      have hO2 := hO.out.full (r := r) (X := X) (by rw [← HML.out]; exact HHR.out) (by rw [HXL.out]; exact HF.out)
      go_wp2_with fail
      first
       | (refine ⟨?_, ?measure⟩; iterate 220 (try apply Exists.intro); refine ⟨?rel, rfl⟩)
       | refine ⟨?rel, ?measure⟩
      case rel => exact ⟨j + k, _, _, hjk, HNX.out, by rw [HMX.out]; exact hO2, by rw [← HM3.out]; exact H⟩
      case measure => exact HSL.out
    · have hO2 := hO.out.less (r := r) (X := X) (by rw [← HML.out]; exact HHR.out) (by rw [HXL.out]; omega)
      first
       | (refine ⟨?_, ?measure⟩; iterate 220 (try apply Exists.intro); refine ⟨?rel, rfl⟩)
       | refine ⟨?rel, ?measure⟩
      case rel => exact ⟨j + k, _, _, hjk, HNX.out, by rw [HMX.out]; exact hO2, by rw [← HM3.out]; exact H⟩
      case measure => exact HSL.out
  · obtain rfl : q = 0 := by omega
    have hjj : j = bs.length := by have := HYL.out; omega
    have hfin : At w0 (strmM p N :: F) wr := by
     refine strm_close (M := N) ?_ ?_ H
     · rw [HNN.out]
       have := hO.out
       rwa [hjj, List.take_length] at this
     · rw [HNN.out, List.length_append, HM.out, HN.out, hjj]
    clear H
    go_wp2_with fail
    go_end0
    exact ⟨rfl, hfin⟩
end Go.Proofs.YtmflbekabkainaaGreatDoor
