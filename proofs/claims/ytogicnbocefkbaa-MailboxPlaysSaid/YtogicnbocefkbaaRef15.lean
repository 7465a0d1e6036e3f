/-
  The document's answer for the mailbox: its items, box by box, are what the mail's boxes hold; each of its methods answers as the mail does.
-/
import Derived.Test.YtogicnbocefkbaaLaw15
import Derived.Test.YtogicnbocefkbaaPair
import Derived.Test.YtogicnbocefkbaaList
import Derived.Test.YtogicnbocefkbaaNum
namespace Go.Proofs.Ytogicnbocefkbaa
open Go.ChangeShapes Go.WideShapes Go.RowKit Go.Hg
set_option linter.unusedSimpArgs false
set_option linter.unusedVariables false
/-- An item's cells; a text's. -/
def itemC (x : Int × Body) : List Value := [.int .u16 x.1, .string (sb x.2)]
def strC (b : Body) : List Value := [.string (sb b)]
theorem under_Items : Try.prog.underlying 27 = some (.slice 63) := by kernel_rfl
theorem under_strs : Try.prog.underlying 43 = some (.slice 9) := by kernel_rfl
theorem el_item : El Try.prog 63 2 24 itemC := ⟨⟨.agg #[.int .u16 0, .string ByteArray.empty], by kernel_rfl, rfl⟩, fun _ => rfl, fun x u hu => by simp [itemC] at hu; rcases hu with rfl | rfl <;> rfl⟩
theorem el_str : El Try.prog 9 1 16 strC := ⟨⟨.string ByteArray.empty, by kernel_rfl, rfl⟩, fun _ => rfl, fun x u hu => by simp [strC] at hu; subst hu; rfl⟩
/-- The items of one box. -/
def ofBox (k : Int) (I : List (Int × Body)) : List Body := (I.filter fun x => x.1 == k).map (·.2)
/-- The document's mail. -/
def rmail (q : Nat) (z : Int) (I : List (Int × Body)) : SP := fun h => ∃ a c, seps [raw q #[.int .i64 z, .slice a I.length c] 29, lrow 63 2 itemC (.slice a I.length c) I] h
theorem rmail_open {w0 w : World} {F : List SP} {q : Nat} {z : Int} {I : List (Int × Body)} (H : At w0 (rmail q z I :: F) w) : ∃ a c, At w0 (raw q #[.int .i64 z, .slice a I.length c] 29 :: lrow 63 2 itemC (.slice a I.length c) I :: F) w := by
  obtain ⟨b, h, ⟨h1, h2, ⟨a, c, s⟩, q', r⟩, t, u⟩ := H
  exact ⟨a, c, b, h, seps_join [raw q #[.int .i64 z, .slice a I.length c] 29, lrow 63 2 itemC (.slice a I.length c) I] h ⟨h1, h2, s, q', r⟩, t, u⟩
theorem rmail_shut {w0 w : World} {F : List SP} {q : Nat} {z : Int} {I : List (Int × Body)} {a : Option Addr} {c : Nat} (H : At w0 (raw q #[.int .i64 z, .slice a I.length c] 29 :: lrow 63 2 itemC (.slice a I.length c) I :: F) w) : At w0 (rmail q z I :: F) w :=
  H.imp fun h s => sep_mono (seps_split [raw q #[.int .i64 z, .slice a I.length c] 29, lrow 63 2 itemC (.slice a I.length c) I] h s) (fun _ s => ⟨a, c, s⟩) (fun _ s => s)
attribute [irreducible] rmail
/-- The items are what the boxes hold. -/
def Same (z : Int) (L : List (List Body)) (I : List (Int × Body)) : Prop := L.length = min z.toNat 64 ∧ ∀ k : Nat, L.getD k [] = ofBox k I
theorem take_snoc {α : Type} {I : List α} {i : Nat} {x : α} (h : I[i]? = some x) : I.take (i + 1) = I.take i ++ [x] := by rw [List.take_add_one, h]; rfl
theorem ofBox_append (k : Int) (I J : List (Int × Body)) : ofBox k (I ++ J) = ofBox k I ++ ofBox k J := by simp [ofBox]
theorem ofBox_one (k : Int) (x : Int × Body) : ofBox k [x] = if x.1 = k then [x.2] else [] := by
  unfold ofBox
  by_cases h : x.1 = k <;> simp [h]
theorem ofBox_le (k : Int) (I : List (Int × Body)) : (ofBox k I).length ≤ I.length := by
  unfold ofBox; rw [List.length_map]; exact List.length_filter_le _ _
set_option maxRecDepth 10000 in
set_option maxHeartbeats 400000 in
theorem there_yes (q : Nat) (k z : Int) (w : World) (h0 : 0 ≤ k) (hk : k < 65536) (hz : k < z) (h64 : k < 64) (hb : w.cell? ⟨q, 0, none⟩ = some (.int .i64 z)) :
    Calls Try.prog 20 #[.pointer (some ⟨q, 0, none⟩), .int .u16 k] w fun e w' => e = .returned (.bool true) ∧ w = w' := by
  by_cases h : z ≤ 64
  all_goals
    go_enter Try.func20, Try.ntmps20
    go_wp2
    go_ret
    exact ⟨rfl, rfl⟩
set_option maxRecDepth 10000 in
set_option maxHeartbeats 400000 in
theorem there_no (q : Nat) (k z : Int) (w : World) (h0 : 0 ≤ k) (hk : k < 65536) (hz : ¬ (k < z ∧ k < 64)) (hb : w.cell? ⟨q, 0, none⟩ = some (.int .i64 z)) :
    Calls Try.prog 20 #[.pointer (some ⟨q, 0, none⟩), .int .u16 k] w fun e w' => e = .returned (.bool false) ∧ w = w' := by
  by_cases h : z ≤ 64
  · have h2 : ¬ k < z := by omega
    go_enter Try.func20, Try.ntmps20
    go_wp2
    go_ret
    exact ⟨rfl, rfl⟩
  · have h2 : ¬ k < 64 := by omega
    go_enter Try.func20, Try.ntmps20
    go_wp2
    go_ret
    exact ⟨rfl, rfl⟩
set_option maxRecDepth 10000 in
set_option maxHeartbeats 400000 in
theorem rlen_walk {w0 w : World} {F : List SP} {q : Nat} {z : Int} {I : List (Int × Body)} {a : Option Addr} {c : Nat} (H : At w0 (raw q #[.int .i64 z, .slice a I.length c] 29 :: lrow 63 2 itemC (.slice a I.length c) I :: F) w) (k : Int) (h0 : 0 ≤ k) (hk : k < 65536) (hI : I.length ≤ 1000000) :
    Calls Try.prog 18 #[.pointer (some ⟨q, 0, none⟩), .int .u16 k] w fun e w' => e = .returned (.int .i64 (ofBox k I).length) ∧ w = w' := by
  have hc : w.cell? ⟨q, 1, none⟩ = some (.slice a I.length c) := raw_at (H.heap 0 rfl) rfl
  go_enter Try.func18, Try.ntmps18
  go_wp2_with fail
  go_loop [5, 6] (fun n i => ∃ j : Nat, j ≤ I.length ∧ i = .int .i64 j ∧ n = .int .i64 (ofBox k (I.take j)).length) (fun _ i => I.length - (intOf i).toNat)
  case atStart => exact ⟨0, by omega, rfl, rfl⟩
  case round =>
    obtain ⟨j, hj, rfl, rfl⟩ := hrel
    have hle := ofBox_le k (I.take j)
    rw [List.length_take] at hle
    by_cases hlt : (j : Int) < I.length
    · obtain ⟨x, hx⟩ : ∃ x, I[j]? = some x := ⟨_, List.getElem?_eq_getElem (by omega)⟩
      obtain ⟨g, off, rfl⟩ := lrow_place H 1 rfl (by omega)
      have hb : w.cell? ⟨g, off + j * 2, none⟩ = some (.int .u16 x.1) := lrow_cell el_item (j := 0) H 1 rfl hx rfl
      have hs := take_snoc hx
      have hs2 := Lib.hid (show (ofBox k (I.take (j + 1))).length = (ofBox k (I.take j)).length + if x.1 = k then 1 else 0 by
        rw [hs, ofBox_append, ofBox_one, List.length_append]; split <;> rfl)
      clear hx hs
      obtain ⟨n, hn⟩ : ∃ n, n = (ofBox k (I.take j)).length := ⟨_, rfl⟩
      rw [← hn] at hs2 ⊢
      by_cases he : x.1 = k
      · go_wp2
        go_round
        case rel => exact ⟨j + 1, by omega, by go_num, by rw [hs2.out, if_pos he]; go_num⟩
        case measure => simp [intOf]; omega
      · go_wp2
        go_round
        case rel => exact ⟨j + 1, by omega, by go_num, by rw [hs2.out, if_neg he]; rfl⟩
        case measure => simp [intOf]; omega
    · have hj2 : j = I.length := by omega
      have hs2 := Lib.hid (show I.take j = I by rw [hj2, List.take_of_length_le (Nat.le_refl _)])
      clear hj2
      rw [hs2.out]
      go_wp2
      go_ret
      exact ⟨rfl, rfl⟩
/-- Len: as many as the box has. -/
theorem rlen_c {w0 w : World} {F : List SP} {q : Nat} {z : Int} {L : List (List Body)} {I : List (Int × Body)} (H : At w0 (rmail q z I :: F) w) (hS : Same z L I) (hI : I.length ≤ 1000000) (k : Int) (h0 : 0 ≤ k) (hk : k < 65536) :
    Calls Try.prog 18 #[.pointer (some ⟨q, 0, none⟩), .int .u16 k] w fun e w' => e = .returned (.int .i64 (lenM L k.toNat)) ∧ w = w' := by
  obtain ⟨a, c, H2⟩ := rmail_open H
  refine (rlen_walk H2 k h0 hk hI).mono fun e w' h => ⟨?_, h.2⟩
  rw [h.1]
  unfold lenM
  rw [hS.2 k.toNat, Int.toNat_of_nonneg h0]
set_option maxRecDepth 10000 in
set_option maxHeartbeats 400000 in
theorem rput_none (q : Nat) (k z : Int) (s : ByteArray) (w : World) (h0 : 0 ≤ k) (hk : k < 65536) (hz : ¬ (k < z ∧ k < 64)) (hb : w.cell? ⟨q, 0, none⟩ = some (.int .i64 z)) :
    Calls Try.prog 14 #[.pointer (some ⟨q, 0, none⟩), .int .u16 k, .string s] w fun e w' => e = .returned (.int .i64 10) ∧ w = w' := by
  go_enter Try.func14, Try.ntmps14
  go_wp2_with fail
  refine (there_no q k z w h0 hk hz hb).mono ?_; rintro e w' ⟨rfl, rfl⟩
  go_wp2
  go_ret
  exact ⟨rfl, rfl⟩
set_option maxRecDepth 10000 in
set_option maxHeartbeats 400000 in
theorem rput_full {w0 w : World} {F : List SP} {q : Nat} {z : Int} {I : List (Int × Body)} {a : Option Addr} {c : Nat} (H : At w0 (raw q #[.int .i64 z, .slice a I.length c] 29 :: lrow 63 2 itemC (.slice a I.length c) I :: F) w) (k : Int) (s : ByteArray) (h0 : 0 ≤ k) (hk : k < 65536) (hz : k < z) (h64 : k < 64) (hI : I.length ≤ 1000000)
    (hf : (64 : Int) ≤ (ofBox k I).length) :
    Calls Try.prog 14 #[.pointer (some ⟨q, 0, none⟩), .int .u16 k, .string s] w fun e w' => e = .returned (.int .i64 8) ∧ w = w' := by
  go_enter Try.func14, Try.ntmps14
  go_wp2_with fail
  refine (there_yes q k z w h0 hk hz h64 (raw_at (H.heap 0 rfl) rfl)).mono ?_; rintro e w' ⟨rfl, rfl⟩
  go_wp2_with fail
  refine (rlen_walk H k h0 hk hI).mono ?_; rintro e w' ⟨rfl, rfl⟩
  go_wp2
  go_ret
  exact ⟨rfl, rfl⟩
set_option maxRecDepth 10000 in
set_option maxHeartbeats 1000000 in
theorem rput_room {w0 w : World} {F : List SP} {q : Nat} {z : Int} {I : List (Int × Body)} {a : Option Addr} {c : Nat} (H : At w0 (raw q #[.int .i64 z, .slice a I.length c] 29 :: lrow 63 2 itemC (.slice a I.length c) I :: F) w) (k : Int) (b : Body) (h0 : 0 ≤ k) (hk : k < 65536) (hz : k < z) (h64 : k < 64) (hI : I.length ≤ 1000000)
    (hf : ¬ (64 : Int) ≤ (ofBox k I).length) :
    Calls Try.prog 14 #[.pointer (some ⟨q, 0, none⟩), .int .u16 k, .string (sb b)] w fun e w' => e = .returned (.int .i64 0) ∧ At w0 (rmail q z (I ++ [(k, b)]) :: F) w' := by
  go_enter Try.func14, Try.ntmps14
  go_wp2_with fail
  refine (there_yes q k z w h0 hk hz h64 (raw_at (H.heap 0 rfl) rfl)).mono ?_; rintro e w' ⟨rfl, rfl⟩
  go_wp2_with fail
  refine (rlen_walk H k h0 hk hI).mono ?_; rintro e w' ⟨rfl, rfl⟩
  go_wp2_with ((with_reducible refine wpList_op rfl ?_); intro _ hK; first | (refine wp_lnew el_item _ under_Items rfl H (fun B w' H => hK _ _ ?_)) | (refine wp_get _ _ rfl rfl (by kernel_rfl) (raw_at (H.heap 1 rfl) rfl) (hK _ _ ?_)) | (refine wp_lapp_all el_item (xs := []) (ys := I) _ under_Items _ _ rfl rfl H rfl 1 rfl (by simp [maxLen]; omega) (by simp; omega) (fun bb cc w' H => hK _ _ ?_)) | (refine wp_lbuild el_item (y := (k, b)) _ under_Items _ rfl rfl rfl (by omega) (by omega) H (fun B w' H => hK _ _ ?_)) | (refine wp_lapp_one el_item (y := (k, b)) _ under_Items _ _ rfl rfl (H.pull 1 rfl) rfl 0 rfl rfl (by simp [maxLen]; omega) (by simp; omega) (fun bb cc w' H => hK _ _ ?_)) | (refine wp_store_sl _ _ _ rfl rfl rfl (by kernel_rfl) rfl 2 H rfl (by simp) fun w' H => hK _ _ ?_))
  go_ret
  refine ⟨rfl, ?_⟩
  have H2 : At w0 (raw q #[.int .i64 z, .slice bb (I.length + 1) cc] 29 :: lrow 63 2 itemC (.slice bb (I ++ [(k, b)]).length cc) (I ++ [(k, b)]) :: F) w' := (H.pull 2 rfl).maskR [true, true, false, false]
  rw [show I.length + 1 = (I ++ [(k, b)]).length from by simp] at H2
  exact rmail_shut H2
theorem getD_out {L : List (List Body)} {k : Nat} (h : L.length ≤ k) : L.getD k [] = [] := by
  rw [List.getD_eq_getElem?_getD, List.getElem?_eq_none h]; rfl
/-- Put. -/
theorem rput_c {w0 w : World} {F : List SP} {q : Nat} {z : Int} {L : List (List Body)} {I : List (Int × Body)} (H : At w0 (rmail q z I :: F) w) (hS : Same z L I) (hI : I.length ≤ 999999) (k : Int) (h0 : 0 ≤ k) (hk : k < 65536) (b : Body) :
    Calls Try.prog 14 #[.pointer (some ⟨q, 0, none⟩), .int .u16 k, .string (sb b)] w fun e w' => ∃ I', e = .returned (.int .i64 (putE L k.toNat)) ∧ Same z (putL L k.toNat b) I' ∧ I'.length ≤ I.length + 1 ∧ At w0 (rmail q z I' :: F) w' := by
  obtain ⟨a, c, H2⟩ := rmail_open H
  have hl := hS.1
  have hb := hS.2 k.toNat
  rw [Int.toNat_of_nonneg h0] at hb
  by_cases hz : k < z ∧ k < 64
  · by_cases hf : (64 : Int) ≤ (ofBox k I).length
    · have hp := put_facts_full (L := L) (k := k.toNat) (by omega) (by rw [hb]; omega) b
      refine (rput_full H2 k (sb b) h0 hk hz.1 hz.2 (by omega) hf).mono fun e w' h => ⟨I, ?_, ?_, by omega, ?_⟩
      · rw [hp.1]; exact h.1
      · rw [hp.2]; exact hS
      · rw [← h.2]; exact H
    · have hp := put_facts (L := L) (k := k.toNat) (by omega) (by rw [hb]; omega) b
      refine (rput_room H2 k b h0 hk hz.1 hz.2 (by omega) hf).mono fun e w' h => ⟨I ++ [(k, b)], ?_, ⟨by rw [hp.2.1, hl], fun j => ?_⟩, by simp, h.2⟩
      · rw [hp.1]; exact h.1
      · rw [ofBox_append, ofBox_one, ← hS.2 j]
        by_cases hj : k.toNat = j
        · subst hj
          rw [hp.2.2, if_pos (Int.toNat_of_nonneg h0).symm]
        · rw [put_other hj, if_neg (fun e => hj (by have e' : k = (j : Int) := e; omega)), List.append_nil]
  · have hp := put_facts_none (L := L) (k := k.toNat) (by omega) b
    refine (rput_none q k z (sb b) w h0 hk hz (raw_at (H2.heap 0 rfl) rfl)).mono fun e w' h => ⟨I, ?_, ?_, by omega, ?_⟩
    · rw [hp.1]; exact h.1
    · rw [hp.2]; exact hS
    · rw [← h.2]; exact H
/-- One item of a fetch. -/
def stepF (k n : Int) (p : List Body × List (Int × Body)) (x : Int × Body) : List Body × List (Int × Body) :=
  if x.1 = k ∧ (p.1.length : Int) < n then (p.1 ++ [x.2], p.2) else (p.1, p.2 ++ [x])
theorem ofBox_cons (k : Int) (x : Int × Body) (I : List (Int × Body)) : ofBox k (x :: I) = (if x.1 = k then [x.2] else []) ++ ofBox k I := by
  rw [← ofBox_one, ← ofBox_append]; rfl
theorem fold_law (k n : Int) : ∀ (I : List (Int × Body)) (out : List Body) (kept : List (Int × Body)),
    (I.foldl (stepF k n) (out, kept)).1 = out ++ (ofBox k I).take (n - out.length).toNat ∧ ofBox k (I.foldl (stepF k n) (out, kept)).2 = ofBox k kept ++ (ofBox k I).drop (n - out.length).toNat ∧
    (∀ j, j ≠ k → ofBox j (I.foldl (stepF k n) (out, kept)).2 = ofBox j kept ++ ofBox j I) ∧ (I.foldl (stepF k n) (out, kept)).2.length ≤ kept.length + I.length
  | [], out, kept => by simp [ofBox]
  | x :: I, out, kept => by
    rw [List.foldl_cons]
    by_cases h1 : x.1 = k
    · by_cases h2 : (out.length : Int) < n
      · have e : stepF k n (out, kept) x = (out ++ [x.2], kept) := by unfold stepF; rw [if_pos ⟨h1, h2⟩]
        rw [e]
        obtain ⟨i1, i2, i3, i4⟩ := fold_law k n I (out ++ [x.2]) kept
        have hm : (n - (out.length : Int)).toNat = (n - ((out ++ [x.2]).length : Int)).toNat + 1 := by rw [List.length_append]; simp; omega
        rw [ofBox_cons, if_pos h1, hm]
        refine ⟨by rw [i1]; simp, by rw [i2]; simp, fun j hj => by rw [i3 j hj, ofBox_cons, if_neg (fun e => hj (e.symm.trans h1))]; rfl, by simp; omega⟩
      · have e : stepF k n (out, kept) x = (out, kept ++ [x]) := by unfold stepF; rw [if_neg (fun h => h2 h.2)]
        rw [e]
        obtain ⟨i1, i2, i3, i4⟩ := fold_law k n I out (kept ++ [x])
        have hm : (n - (out.length : Int)).toNat = 0 := by omega
        rw [hm] at i1 i2 ⊢
        refine ⟨by rw [i1]; simp, by rw [i2, ofBox_append, ofBox_one, ofBox_cons]; simp, fun j hj => by rw [i3 j hj, ofBox_append, ofBox_one, ofBox_cons, List.append_assoc], by simp at i4 ⊢; omega⟩
    · have e : stepF k n (out, kept) x = (out, kept ++ [x]) := by unfold stepF; rw [if_neg (fun h => h1 h.1)]
      rw [e]
      obtain ⟨i1, i2, i3, i4⟩ := fold_law k n I out (kept ++ [x])
      refine ⟨by rw [i1, ofBox_cons, if_neg h1]; rfl, by rw [i2, ofBox_append, ofBox_one, if_neg h1, ofBox_cons, if_neg h1]; simp, fun j hj => by rw [i3 j hj, ofBox_append, ofBox_one, ofBox_cons, List.append_assoc], by simp at i4 ⊢; omega⟩
set_option maxRecDepth 10000 in
set_option maxHeartbeats 400000 in
theorem rfetch_none (q : Nat) (k z n : Int) (w : World) (h0 : 0 ≤ k) (hk : k < 65536) (hz : ¬ (k < z ∧ k < 64)) (hb : w.cell? ⟨q, 0, none⟩ = some (.int .i64 z)) :
    Calls Try.prog 16 #[.pointer (some ⟨q, 0, none⟩), .int .u16 k, .int .i64 n] w fun e w' => e = .returned (.tuple #[.slice none 0 0, .int .i64 10]) ∧ w = w' := by
  go_enter Try.func16, Try.ntmps16
  go_wp2_with fail
  refine (there_no q k z w h0 hk hz hb).mono ?_; rintro e w' ⟨rfl, rfl⟩
  go_wp2
  go_ret2
  exact ⟨rfl, rfl⟩
set_option maxRecDepth 10000 in
set_option maxHeartbeats 400000 in
theorem rfetch_neg (q : Nat) (k z n : Int) (w : World) (h0 : 0 ≤ k) (hk : k < 65536) (hz : k < z) (h64 : k < 64) (hn : n < 0) (hb : w.cell? ⟨q, 0, none⟩ = some (.int .i64 z)) :
    Calls Try.prog 16 #[.pointer (some ⟨q, 0, none⟩), .int .u16 k, .int .i64 n] w fun e w' => e = .returned (.tuple #[.slice none 0 0, .int .i64 1]) ∧ w = w' := by
  go_enter Try.func16, Try.ntmps16
  go_wp2_with fail
  refine (there_yes q k z w h0 hk hz h64 hb).mono ?_; rintro e w' ⟨rfl, rfl⟩
  go_wp2
  go_ret2
  exact ⟨rfl, rfl⟩
/-- The state of a fetch behind so many items. -/
def FetchR (w0 : World) (q : Nat) (z : Int) (I : List (Int × Body)) (a : Option Addr) (c : Nat) (F : List SP) (out : List Body) (kept : List (Int × Body)) (a1 : Option Addr) (c1 : Nat) (a2 : Option Addr) (c2 : Nat) (w : World) : Prop :=
  At w0 (lrow 9 1 strC (.slice a1 out.length c1) out :: lrow 63 2 itemC (.slice a2 kept.length c2) kept :: raw q #[.int .i64 z, .slice a I.length c] 29 :: lrow 63 2 itemC (.slice a I.length c) I :: F) w
set_option maxRecDepth 10000 in
set_option maxHeartbeats 2000000 in
theorem rfetch_room {w0 w : World} {F : List SP} {q : Nat} {z : Int} {I : List (Int × Body)} {a : Option Addr} {c : Nat} (H : At w0 (raw q #[.int .i64 z, .slice a I.length c] 29 :: lrow 63 2 itemC (.slice a I.length c) I :: F) w) (k n : Int) (h0 : 0 ≤ k) (hk : k < 65536) (hz : k < z) (h64 : k < 64) (hI : I.length ≤ 999999)
    (hn : 0 ≤ n) :
    Calls Try.prog 16 #[.pointer (some ⟨q, 0, none⟩), .int .u16 k, .int .i64 n] w fun e w' => ∃ a1 c1, e = .returned (.tuple #[.slice a1 (I.foldl (stepF k n) ([], [])).1.length c1, .int .i64 0]) ∧
      At w0 (lrow 9 1 strC (.slice a1 (I.foldl (stepF k n) ([], [])).1.length c1) (I.foldl (stepF k n) ([], [])).1 :: rmail q z (I.foldl (stepF k n) ([], [])).2 :: F) w' := by
  have hn2 : ¬ n < 0 := by omega
  go_enter Try.func16, Try.ntmps16
  go_wp2_with fail
  refine (there_yes q k z w h0 hk hz h64 (raw_at (H.heap 0 rfl) rfl)).mono ?_; rintro e w' ⟨rfl, rfl⟩
  have tok1 : True := trivial
  go_wp2_with ((with_reducible refine wpList_op rfl ?_); intro _ hK; first | (refine wp_lnew el_str _ under_strs rfl H (fun B w' H => hK _ _ ?_)) | (refine wp_lnew el_item _ under_Items rfl H (fun B w' H => hK _ _ ?_)))
  go_loopw [9, 10, 11] (fun s r i wr => ∃ (j : Nat) (out : List Body) (kept : List (Int × Body)) (a1 : Option Addr) (c1 : Nat) (a2 : Option Addr) (c2 : Nat), j ≤ I.length ∧ i = .int .i64 j ∧ s = .slice a1 out.length c1 ∧ r = .slice a2 kept.length c2 ∧ (I.take j).foldl (stepF k n) ([], []) = (out, kept) ∧ out.length ≤ j ∧ kept.length ≤ j ∧ FetchR w0 q z I a c F out kept a1 c1 a2 c2 wr) (fun _ _ i _ => I.length - (intOf i).toNat)
  case atStart => exact ⟨0, [], [], _, _, _, _, by omega, rfl, rfl, rfl, rfl, by simp, by simp, H.pull 1 rfl⟩
  case round =>
    clear H
    obtain ⟨j, out, kept, a1, c1, a2, c2, hj, rfl, rfl, rfl, hfold, ho, hke, H⟩ := hrel
    unfold FetchR at H
    have hc1 : wr.cell? ⟨q, 1, none⟩ = some (.slice a I.length c) := raw_at (H.heap 2 rfl) rfl
    by_cases hlt : (j : Int) < I.length
    · obtain ⟨x, hx⟩ : ∃ x, I[j]? = some x := ⟨_, List.getElem?_eq_getElem (by omega)⟩
      obtain ⟨g, off, rfl⟩ := lrow_place H 3 rfl (by omega)
      have hb0 : wr.cell? ⟨g, off + j * 2, none⟩ = some (.int .u16 x.1) := lrow_cell el_item (j := 0) H 3 rfl hx rfl
      have hb1 : wr.cell? ⟨g, off + j * 2 + 1, none⟩ = some (.string (sb x.2)) := lrow_cell el_item (j := 1) H 3 rfl hx rfl
      have hbr := Lib.hid (lrow_at el_item H 3 rfl hx)
      have hs : (I.take (j + 1)).foldl (stepF k n) ([], []) = stepF k n (out, kept) x := by rw [take_snoc hx, List.foldl_append, hfold]; rfl
      clear hx
      by_cases hx1 : x.1 = k
      · by_cases hx2 : (out.length : Int) < n
        · have e : stepF k n (out, kept) x = (out ++ [x.2], kept) := by unfold stepF; rw [if_pos ⟨hx1, hx2⟩]
          have HS := Lib.hid (hs.trans e)
          clear hs e
          go_wp2_with ((with_reducible refine wpList_op rfl ?_); intro _ hK; first | (refine wp_lbuild el_str (y := x.2) _ under_strs _ rfl rfl rfl (by omega) (by omega) H (fun B w' H => hK _ _ ?_)) | (refine wp_lapp_one el_str (y := x.2) _ under_strs _ _ rfl rfl (H.pull 1 rfl) rfl 0 rfl rfl (by simp only [maxLen]; omega) (by omega) (fun bb cc w' H => hK _ _ ?_)))
          go_roundw
          case rel => exact ⟨j + 1, out ++ [x.2], kept, _, _, _, _, by omega, by go_num, by simp, rfl, HS.out, by simp; omega, by omega, H.maskR [true, false, true]⟩
          case measure => simp [intOf]; omega
        · have e : stepF k n (out, kept) x = (out, kept ++ [x]) := by unfold stepF; rw [if_neg (fun h => hx2 h.2)]
          have HS := Lib.hid (hs.trans e)
          clear hs e
          go_wp2_with ((with_reducible refine wpList_op rfl ?_); intro _ hK; first | (refine wp_mid 63 _ rfl rfl (itemC x) (by kernel_rfl) (by kernel_rfl) hbr.out (hK _ _ ?_)) | (refine wp_lbuild el_item (y := x) _ under_Items _ rfl rfl rfl (by omega) (by omega) H (fun B w' H => hK _ _ ?_)) | (refine wp_lapp_one el_item (y := x) _ under_Items _ _ rfl rfl (H.pull 2 rfl) rfl 0 rfl rfl (by simp only [maxLen]; omega) (by omega) (fun bb cc w' H => hK _ _ ?_)))
          go_roundw
          case rel => exact ⟨j + 1, out, kept ++ [x], _, _, _, _, by omega, by go_num, rfl, by simp, HS.out, by omega, by simp; omega, (H.pull 2 rfl).maskR [true, true, false]⟩
          case measure => simp [intOf]; omega
      · have e : stepF k n (out, kept) x = (out, kept ++ [x]) := by unfold stepF; rw [if_neg (fun h => hx1 h.1)]
        have HS := Lib.hid (hs.trans e)
        clear hs e
        go_wp2_with ((with_reducible refine wpList_op rfl ?_); intro _ hK; first | (refine wp_mid 63 _ rfl rfl (itemC x) (by kernel_rfl) (by kernel_rfl) hbr.out (hK _ _ ?_)) | (refine wp_lbuild el_item (y := x) _ under_Items _ rfl rfl rfl (by omega) (by omega) H (fun B w' H => hK _ _ ?_)) | (refine wp_lapp_one el_item (y := x) _ under_Items _ _ rfl rfl (H.pull 2 rfl) rfl 0 rfl rfl (by simp only [maxLen]; omega) (by omega) (fun bb cc w' H => hK _ _ ?_)))
        go_roundw
        case rel => exact ⟨j + 1, out, kept ++ [x], _, _, _, _, by omega, by go_num, rfl, by simp, HS.out, by omega, by simp; omega, (H.pull 2 rfl).maskR [true, true, false]⟩
        case measure => simp [intOf]; omega
    · have hj2 : I.take j = I := List.take_of_length_le (by omega)
      rw [hj2] at hfold
      have HF := Lib.hid hfold
      clear hfold hj2
      go_wp2_with ((with_reducible refine wpList_op rfl ?_); intro _ hK; refine wp_store_sl _ _ _ rfl rfl rfl (by kernel_rfl) rfl 2 H rfl (by simp) fun w' H => hK _ _ ?_)
      go_ret2
      rw [HF.out]
      refine ⟨a1, c1, rfl, ?_⟩
      exact (rmail_shut ((((H.pull 1 rfl).pull 2 rfl).maskR [true, true, true, false] : At w0 (raw q #[.int .i64 z, .slice a2 kept.length c2] 29 :: lrow 63 2 itemC (.slice a2 kept.length c2) kept :: lrow 9 1 strC (.slice a1 out.length c1) out :: F) _))).pull 1 rfl
theorem fetch_none_facts {L : List (List Body)} {k : Nat} (h : L.length ≤ k) (n : Int) : fetchE L k n = 10 ∧ fetchX L k n = [] ∧ fetchL L k n = L := by
  unfold fetchE fetchX fetchL
  rw [if_pos h, if_pos h, if_pos h]
  exact ⟨rfl, rfl, rfl⟩
theorem fetch_neg_facts {L : List (List Body)} {k : Nat} (h : ¬ L.length ≤ k) {n : Int} (hn : n < 0) : fetchE L k n = 1 ∧ fetchX L k n = [] ∧ fetchL L k n = L := by
  unfold fetchE fetchX fetchL
  rw [if_neg h, if_neg h, if_neg h, if_pos hn, if_pos hn, if_pos hn]
  exact ⟨rfl, rfl, rfl⟩
/-- Fetch. -/
theorem rfetch_c {w0 w : World} {F : List SP} {q : Nat} {z : Int} {L : List (List Body)} {I : List (Int × Body)} (H : At w0 (rmail q z I :: F) w) (hS : Same z L I) (hI : I.length ≤ 999999) (k : Int) (h0 : 0 ≤ k) (hk : k < 65536) (n : Int) :
    Calls Try.prog 16 #[.pointer (some ⟨q, 0, none⟩), .int .u16 k, .int .i64 n] w fun e w' => ∃ I' a1 c1, e = .returned (.tuple #[.slice a1 (fetchX L k.toNat n).length c1, .int .i64 (fetchE L k.toNat n)]) ∧ Same z (fetchL L k.toNat n) I' ∧ I'.length ≤ I.length ∧
      At w0 (lrow 9 1 strC (.slice a1 (fetchX L k.toNat n).length c1) (fetchX L k.toNat n) :: rmail q z I' :: F) w' := by
  obtain ⟨a, c, H2⟩ := rmail_open H
  have hl := hS.1
  have hb := hS.2 k.toNat
  rw [Int.toNat_of_nonneg h0] at hb
  by_cases hz : k < z ∧ k < 64
  · by_cases hn : n < 0
    · have hp := fetch_neg_facts (L := L) (k := k.toNat) (by omega) hn
      rw [hp.1, hp.2.1, hp.2.2]
      refine (rfetch_neg q k z n w h0 hk hz.1 hz.2 hn (raw_at (H2.heap 0 rfl) rfl)).mono fun e w' h => ⟨I, none, 0, h.1, hS, by omega, ?_⟩
      rw [← h.2]
      exact lrow_nil H strC 9 1
    · have hp := fetch_facts (L := L) (k := k.toNat) (by omega) (n := n) (by omega)
      have hf := fold_law k n I [] []
      have e0 : (n - (([] : List Body).length : Int)).toNat = n.toNat := by simp
      rw [e0] at hf
      have e1 : fetchX L k.toNat n = (I.foldl (stepF k n) ([], [])).1 := by rw [hp.2.1, hf.1, hb]; rfl
      rw [hp.1, e1]
      refine (rfetch_room H2 k n h0 hk hz.1 hz.2 hI (by omega)).mono fun e w' h => ?_
      obtain ⟨a1, c1, h1, h2⟩ := h
      refine ⟨_, a1, c1, h1, ⟨by rw [fetch_length, hl], fun j => ?_⟩, by simpa using hf.2.2.2, h2⟩
      by_cases hj : k.toNat = j
      · subst hj
        rw [hp.2.2.2, Int.toNat_of_nonneg h0, hf.2.1, hb]; rfl
      · rw [fetch_other hj, hS.2 j, hf.2.2.1 j (by omega)]; rfl
  · have hp := fetch_none_facts (L := L) (k := k.toNat) (by omega) n
    rw [hp.1, hp.2.1, hp.2.2]
    refine (rfetch_none q k z n w h0 hk hz (raw_at (H2.heap 0 rfl) rfl)).mono fun e w' h => ⟨I, none, 0, h.1, hS, by omega, ?_⟩
    rw [← h.2]
    exact lrow_nil H strC 9 1
theorem Same.new (z : Int) : Same z (newL z) [] := ⟨length_new z, fun k => getD_new z k⟩
/-- A new one. -/
theorem rmail_new {w0 w : World} {F : List SP} {q : Nat} {z : Int} (H : At w0 (raw q #[.int .i64 z, .slice none 0 0] 29 :: F) w) : At w0 (rmail q z [] :: F) w :=
  rmail_shut (a := none) (c := 0) ((lrow_nil H itemC 63 2).pull 1 rfl)
end Go.Proofs.Ytogicnbocefkbaa
