/-
  A route is drawn: what Draw tells, of any words, nodes, hops and last one.
-/
import Derived.Test.YtddddlphnoicpaaRouteB
namespace Go.Proofs.Ytddddlphnoicpaa
open Go.RowKit Go.Hg
set_option linter.unusedSimpArgs false
set_option linter.unusedVariables false
/-- One word: who is taken, who is left. -/
def lstep (p : List Int × List Int) (w : Int) : List Int × List Int := (p.1 ++ [gz p.2 (w % (p.2.length : Int)).toNat], p.2.eraseIdx (w % (p.2.length : Int)).toNat)
def drawn (ws left : List Int) : List Int × List Int := ws.foldl lstep ([], left)
theorem drawn_snoc (ws left : List Int) (w : Int) : drawn (ws ++ [w]) left = lstep (drawn ws left) w := by simp [drawn]
theorem place {w : Int} {n : Nat} (h : 0 < n) : ∃ k : Nat, w % (n : Int) = k ∧ k < n := by
  have h1 := Int.emod_nonneg w (b := (n : Int)) (by omega)
  have h2 := Int.emod_lt_of_pos w (b := (n : Int)) (by omega)
  exact ⟨(w % (n : Int)).toNat, by omega, by omega⟩
theorem take_snoc {α : Type} {I : List α} {i : Nat} {x : α} (h : I[i]? = some x) : I.take (i + 1) = I.take i ++ [x] := by rw [List.take_add_one, h]; rfl
theorem others_length {last : Int} {xs : List Int} (hn : xs.Nodup) (hm : last ∈ xs) : (others last xs).length + 1 = xs.length := by
  have e : xs.erase last = others last xs := List.Nodup.erase_eq_filter hn last
  rw [← e, List.length_erase_of_mem hm]
  have := List.length_pos_of_mem hm
  omega
def drawR (ws xs : List Int) (hops last : Int) : List Int := if wrongZ ws.length xs hops last = 0 then (drawn (ws.take (hops - 1).toNat) (others last xs)).1 ++ [last] else []
def drawN (ws xs : List Int) (hops last : Int) : Int := if wrongZ ws.length xs hops last = 0 then hops - 1 else 0
theorem wrong_ok {nw : Nat} {xs : List Int} {hops last : Int} (h : wrongZ nw xs hops last = 0) : 1 ≤ hops ∧ hops ≤ 5 ∧ (xs.length : Int) ≤ 16 ∧ risesB xs = true ∧ last ∈ xs ∧ hops ≤ xs.length ∧ hops - 1 ≤ nw := by
  unfold wrongZ at h
  split at h
  · cases h
  · rename_i h1
    split at h
    · cases h
    · rename_i h2
      split at h
      · cases h
      · split at h
        · cases h
        · refine ⟨?_, ?_, ?_, ?_, Classical.not_not.1 h2, by omega, by omega⟩
          · by_cases e : hops < 1
            · exact absurd (.inl e) h1
            · omega
          · by_cases e : hops > 5
            · exact absurd (.inr (.inl e)) h1
            · omega
          · by_cases e : (xs.length : Int) > 16
            · exact absurd (.inr (.inr (.inl e))) h1
            · omega
          · cases e : risesB xs with
            | true => rfl
            | false => exact absurd (.inr (.inr (.inr e))) h1
def DrawR (w0 : World) (F : List SP) (B : Nat) (last : Int) (ws L0 : List Int) (n0 j : Nat) (out left : List Int) (a1 : Option Addr) (c1 : Nat) (a2 : Option Addr) (c2 : Nat) (w : World) : Prop :=
  drawn (ws.take j) L0 = (out, left) ∧ out.length = j ∧ left.length + j = n0 ∧ At w0 (lrow 25 1 (ic .u16) (.slice a1 out.length c1) out :: lrow 25 1 (ic .u16) (.slice a2 left.length c2) left :: raw B #[.int .u16 last] 25 :: F) w
theorem info_Addr : (Try.prog.info? 25).map (fun i => (i.zero, i.size, i.bytes)) = some (some (.int .u16 0), 1, 2) := by kernel_rfl
set_option maxRecDepth 10000 in
set_option maxHeartbeats 2000000 in
theorem draw_c {w0 w : World} {F : List SP} {vw v : Value} {ws xs : List Int} (H : At w0 F w) (hw : Sees w0 F .u64 vw ws) (hv : Sees w0 F .u16 v xs) (hwb : ∀ x ∈ ws, 0 ≤ x ∧ x ≤ 18446744073709551615) (hl : xs.length ≤ 1000000) (hops last : Int) :
    Calls Try.prog 9 #[vw, v, .int .i64 hops, .int .u16 last] w fun e w' => ∃ a cap, e = .returned (.tuple #[.slice a (drawR ws xs hops last).length cap, .int .i64 (drawN ws xs hops last), .int .i64 (wrongZ ws.length xs hops last)]) ∧ At w0 (lrow 25 1 (ic .u16) (.slice a (drawR ws xs hops last).length cap) (drawR ws xs hops last) :: F) w' := by
  by_cases hz : wrongZ ws.length xs hops last = 0
  · obtain ⟨b1, b2, b3, b4, b5, b6, b7⟩ := wrong_ok hz
    obtain ⟨m, rfl⟩ : ∃ m : Nat, hops = (m : Int) + 1 := ⟨(hops - 1).toNat, by omega⟩
    have hR : drawR ws xs ((m : Int) + 1) last = (drawn (ws.take m) (others last xs)).1 ++ [last] := by
      unfold drawR
      rw [if_pos hz, show ((m : Int) + 1 - 1).toNat = m by omega]
    have hN : drawN ws xs ((m : Int) + 1) last = m := by unfold drawN; rw [if_pos hz]; omega
    have hn0 := others_length (rises_nodup b4) b5
    obtain ⟨n0, hn1⟩ : ∃ n0, n0 = (others last xs).length := ⟨_, rfl⟩
    rw [hR, hN, hz]
    have HZ := Lib.hid hz
    clear hz hR hN b4
    have b6' : m ≤ n0 := by omega
    have b9 : n0 ≤ 16 := by omega
    have b7' : m ≤ ws.length := by omega
    have b7i : (m : Int) ≤ ws.length := by omega
    have hwv := hw
    obtain ⟨wa, wcap, wb, woff, hwe, hwc, hwa, hwcell⟩ := hw
    subst hwe
    have b8 : (m : Int) ≤ wcap := by omega
    go_enter Try.func9, Try.ntmps9
    go_wp2_with ((with_reducible refine wpList_op rfl ?_); intro _ hK; first | (refine wp_box_sl (v := .int .u16 last) 25 _ rfl rfl H (fun B w' (H : At w0 (raw B #[.int .u16 last] 25 :: F) w') _ => hK _ _ ?_)) | (refine wp_get 25 _ rfl rfl (by kernel_rfl) (raw_at (H.heap 0 rfl) rfl) (hK _ _ ?_)))
    refine (wrong_c H (hwv.more _) (hv.more _) hl ((m : Int) + 1) last).mono ?_; rintro e w' ⟨rfl, H⟩
    rw [HZ.out]
    go_wp2_with fail
    refine (clone_c H (hv.more _) hl (by omega)).mono ?_; rintro e w' ⟨a3, c3, rfl, H⟩
    go_wp2_with fail
    refine (deleteFunc_c H hl b5 0 rfl).mono ?_; rintro e w' ⟨g3, o3, rfl, H⟩
    have hL0 := Lib.hid (show others last xs = others last xs from rfl)
    obtain ⟨L0, hL1⟩ : ∃ L0, L0 = others last xs := ⟨_, rfl⟩
    rw [← hL1] at H hn1
    have HL1 := Lib.hid hL1
    clear hL1 hn0 hL0 b5
    have H' := (lrow_nil H (ic .u16) 25 1)
    clear H
    go_wp2_with fail
    go_loopw [12, 13, 34] (fun l12 l13 i wr => ∃ (j : Nat) (out left : List Int) (a1 : Option Addr) (c1 : Nat) (a2 : Option Addr) (c2 : Nat), j ≤ m ∧ i = .int .i64 j ∧ l12 = .slice a2 left.length c2 ∧ l13 = .slice a1 out.length c1 ∧ DrawR w0 F B last ws L0 n0 j out left a1 c1 a2 c2 wr) (fun _ _ i _ => m - (intOf i).toNat)
    case atStart => exact ⟨0, [], L0, none, 0, _, _, by omega, rfl, by rw [HL1.out], rfl, rfl, rfl, by omega, H'⟩
    case round =>
      clear H'
      obtain ⟨j, out, left, a1, c1, a2, c2, hj, rfl, rfl, rfl, hd, ho, hle, H⟩ := hrel
      by_cases hlt : (j : Int) < m
      · have hjw : j < ws.length := by omega
        obtain rfl := hwa (by omega)
        have hcw := hwcell wr H.tail.tail.tail j hjw
        have hxb := hwb _ (gz_mem hjw)
        obtain ⟨k, hk, hkl⟩ := place (w := gz ws j) (n := left.length) (by omega)
        obtain ⟨gb, ob, rfl⟩ := lrow_place H 1 rfl (by omega)
        have hcl : wr.cell? ⟨gb, ob + k, none⟩ = some (.int .u16 (gz left k)) := by
          have := lrow_cell el_a (j := 0) H 1 rfl (gz_get hkl) rfl
          simpa using this
        have hd2 : drawn (ws.take (j + 1)) L0 = (out ++ [gz left k], left.eraseIdx k) := by
          rw [take_snoc (gz_get hjw), drawn_snoc, hd]
          unfold lstep
          rw [hk, Int.toNat_natCast]
        have hel : (left.eraseIdx k).length = left.length - 1 := by rw [List.length_eraseIdx, if_pos hkl]
        have HD2 := Lib.hid hd2
        have HEL := Lib.hid hel
        have hll : (left.length : Int) ≤ 1000000 := by omega
        have HLL := Lib.hid (show left.length ≤ 1000000 by omega)
        have hl0 : ¬ (left.length : Int) = 0 := by omega
        have hkl2 : (k : Int) < left.length := by omega
        have HO := Lib.hid ho
        clear hd hd2 hel hwcell ho
        go_wp2_with ((with_reducible refine wpList_op rfl ?_); intro _ hK; first | (refine wp_lbuild el_a (y := gz left k) _ under_Addrs _ rfl rfl rfl (by omega) (by omega) H (fun C w' H => hK _ _ ?_)) | (refine wp_lapp_one el_a (y := gz left k) _ under_Addrs _ _ rfl rfl (H.pull 1 rfl) rfl 0 rfl rfl (by have := HO.out; simp only [maxLen]; omega) (by have := HO.out; omega) (fun bb cc w' H => hK _ _ ?_)))
        refine (delete_c (H.pull 2 rfl) HLL.out k hkl _ rfl).mono ?_; rintro e w' ⟨rfl, H⟩
        rw [← HEL.out]
        go_wp2
        first
          | (refine ⟨?_, ?measure⟩; iterate 60 (try apply Exists.intro); refine ⟨?rel, rfl⟩)
          | refine ⟨?rel, ?measure⟩
        case rel => exact ⟨j + 1, out ++ [gz left k], left.eraseIdx k, _, _, _, _, by omega, by go_num, rfl, by simp, HD2.out, by have := HO.out; simp; omega, by have := HEL.out; omega, (H.pull 1 rfl).maskR [true, true, false, true]⟩
        case measure => simp [intOf]; omega
      · have hj2 : j = m := by omega
        subst hj2
        have HD := Lib.hid hd
        have HO := Lib.hid ho
        clear hd ho hwcell
        go_wp2_with ((with_reducible refine wpList_op rfl ?_); intro _ hK; first | (refine wp_get 25 _ rfl rfl (by kernel_rfl) (raw_at (H.heap 2 rfl) rfl) (hK _ _ ?_)) | (refine wp_lbuild el_a (y := last) _ under_Addrs _ rfl rfl rfl (by omega) (by omega) H (fun C w' H => hK _ _ ?_)) | (refine wp_lapp_one el_a (y := last) _ under_Addrs _ _ rfl rfl (H.pull 1 rfl) rfl 0 rfl rfl (by have := HO.out; simp only [maxLen]; omega) (by have := HO.out; omega) (fun bb cc w' H => hK _ _ ?_)))
        go_ret3
        rw [← HL1.out, HD.out]
        have H9 := H.maskR [true, false, false, false]
        refine ⟨bb, cc, by simp, ?_⟩
        rw [show (out, left).1.length + 1 = (out ++ [last]).length by simp]
        exact H9
  · have hR : drawR ws xs hops last = [] := by unfold drawR; rw [if_neg hz]
    have hN : drawN ws xs hops last = 0 := by unfold drawN; rw [if_neg hz]
    rw [hR, hN]
    clear hR hN
    obtain ⟨z, hz2⟩ : ∃ z, z = wrongZ ws.length xs hops last := ⟨_, rfl⟩
    rw [← hz2] at hz
    have HZ := Lib.hid hz2
    clear hz2
    go_enter Try.func9, Try.ntmps9
    go_wp2_with ((with_reducible refine wpList_op rfl ?_); intro _ hK; first | (refine wp_box_sl (v := .int .u16 last) 25 _ rfl rfl H (fun B w' (H : At w0 (raw B #[.int .u16 last] 25 :: F) w') _ => hK _ _ ?_)) | (refine wp_get 25 _ rfl rfl (by kernel_rfl) (raw_at (H.heap 0 rfl) rfl) (hK _ _ ?_)))
    refine (wrong_c H (hw.more _) (hv.more _) hl hops last).mono ?_; rintro e w' ⟨rfl, H⟩
    rw [← HZ.out]
    go_wp2
    go_ret3
    rw [← HZ.out]
    exact ⟨_, _, rfl, lrow_nil H.tail (ic .u16) 25 1⟩
end Go.Proofs.Ytddddlphnoicpaa
