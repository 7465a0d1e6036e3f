/-
  The document's answer for a skew: the last sixteen in a row; each of its methods answers as the skew does.
-/
import Derived.Test.YthhmgodnmgmjdaaSkewC
namespace Go.Proofs.Ythhmgodnmgmjdaa
open Go.RowKit Go.Hg Go.Shelf
set_option linter.unusedSimpArgs false
set_option linter.unusedVariables false
theorem under_i64s : Try.prog.underlying 29 = some (.slice 2) := by kernel_rfl
theorem raw_at1 {w : World} {b j : Nat} {cs : Array Value} {t : TypeId} {fr : Nat × Nat} (h : w.heap[b]? = some (.cells cs t fr)) {v : Value} (hv : cs[j]? = some v) : w.cell? ⟨b, j, none⟩ = some v := (raw_cell h j).trans hv
/-- The document's skew, opened. -/
def rsk (q : Nat) (L : List Int) : SP := fun h => ∃ a c, seps [raw q #[.slice a L.length c] 31, row64 (.slice a L.length c) L] h
theorem rsk_open {w0 w : World} {F : List SP} {q : Nat} {L : List Int} (H : At w0 (rsk q L :: F) w) : ∃ a c, At w0 (raw q #[.slice a L.length c] 31 :: row64 (.slice a L.length c) L :: F) w := by
  obtain ⟨b, h, ⟨h1, h2, ⟨a, c, s⟩, q', r⟩, t, u⟩ := H
  exact ⟨a, c, b, h, seps_join [raw q #[.slice a L.length c] 31, row64 (.slice a L.length c) L] h ⟨h1, h2, s, q', r⟩, t, u⟩
theorem rsk_shut {w0 w : World} {F : List SP} {q : Nat} {L : List Int} {a : Option Addr} {c : Nat} (H : At w0 (raw q #[.slice a L.length c] 31 :: row64 (.slice a L.length c) L :: F) w) : At w0 (rsk q L :: F) w :=
  H.imp fun h s => sep_mono (seps_split [raw q #[.slice a L.length c] 31, row64 (.slice a L.length c) L] h s) (fun _ s => ⟨a, c, s⟩) (fun _ s => s)
attribute [irreducible] rsk
theorem rsk_tail {w0 w : World} {F : List SP} {q g off c2 C : Nat} {L : List Int} {d : Int} {a : Value} {cs : Array Value} (hL : L.length = 16) (H : At w0 (row64 (.slice (some ⟨g, off, none⟩) 17 c2) (L ++ [d]) :: raw C cs 2 :: raw q #[.slice (some ⟨g, off + 1, none⟩) 16 (c2 - 1)] 31 :: row64 a L :: F) w) : At w0 (rsk q ((L ++ [d]).drop 1) :: F) w := by
  have h17 : (L ++ [d]).length = 17 := by simp [hL]
  have h16 : ((L ++ [d]).drop 1).length = 16 := by rw [List.length_drop, h17]
  have H1 := H
  unfold row64 lrow at H1
  rw [h17] at H1
  have H2 := At.rows_drop H1 (q := 1) (by omega)
  rw [el_64.cl_drop] at H2
  have H3 : At w0 (row64 (.slice (some ⟨g, off + 1, none⟩) 16 (c2 - 1)) ((L ++ [d]).drop 1) :: raw C cs 2 :: raw q #[.slice (some ⟨g, off + 1, none⟩) 16 (c2 - 1)] 31 :: row64 a L :: F) w := by
    unfold row64 lrow
    rw [h16]
    exact H2
  have H4 := (H3.pull 2 rfl).maskR [true, true, false, false]
  refine rsk_shut (a := some ⟨g, off + 1, none⟩) (c := c2 - 1) ?_
  rw [h16]
  exact H4
theorem row_cap {w0 w : World} {F : List SP} {g off c : Nat} {xs : List Int} (H : At w0 (row64 (.slice (some ⟨g, off, none⟩) xs.length c) xs :: F) w) : xs.length ≤ c := by
  unfold row64 lrow at H
  obtain ⟨cur, hb, hn, _⟩ := At.rows_blk H
  exact hn
set_option maxRecDepth 10000 in
set_option maxHeartbeats 1000000 in
theorem radd_no {w0 w : World} {F : List SP} {q : Nat} {l r : Int} (H : At w0 F w) (hb : apB l r = false) (hl0 : 0 ≤ l) (hl1 : l ≤ 18446744073709551615) (hr0 : 0 ≤ r) (hr1 : r ≤ 18446744073709551615) :
    Calls Try.prog 14 #[.pointer (some ⟨q, 0, none⟩), .int .u64 l, .int .u64 r] w fun e w' => e = .returned (.bool false) ∧ At w0 F w' := by
  have hd := of_decide_eq_false hb
  clear hb
  by_cases h : l ≤ r
  · have hw : IntKind.u64.wrap (r - l) = r - l := by rw [IntKind.wrap_u64]; omega
    have h2 : 9223372036854775807 < r - l := by omega
    clear hd
    go_enter Try.func14, Try.ntmps14
    go_wp2
    go_ret
    exact ⟨rfl, H⟩
  · have hw : IntKind.u64.wrap (l - r) = l - r := by rw [IntKind.wrap_u64]; omega
    have h2 : 9223372036854775807 < l - r := by omega
    clear hd
    go_enter Try.func14, Try.ntmps14
    go_wp2
    go_ret
    exact ⟨rfl, H⟩
set_option maxRecDepth 10000 in
set_option maxHeartbeats 1000000 in
theorem radd_few {w0 w : World} {F : List SP} {q : Nat} {L : List Int} {l r : Int} (H : At w0 (rsk q L :: F) w) (hL : L.length < 16) (hb : apB l r = true) (hl0 : 0 ≤ l) (hl1 : l ≤ 18446744073709551615) (hr0 : 0 ≤ r) (hr1 : r ≤ 18446744073709551615) :
    Calls Try.prog 14 #[.pointer (some ⟨q, 0, none⟩), .int .u64 l, .int .u64 r] w fun e w' => e = .returned (.bool true) ∧ At w0 (rsk q (L ++ [r - l]) :: F) w' := by
  have hd := of_decide_eq_true hb
  clear hb
  obtain ⟨a, c, H⟩ := rsk_open H
  by_cases h : l ≤ r
  · obtain ⟨d, hdd⟩ : ∃ d, d = r - l := ⟨_, rfl⟩
    have hw : IntKind.u64.wrap (r - l) = d := by rw [IntKind.wrap_u64]; omega
    have h2 : d ≤ 9223372036854775807 := by omega
    have hw2 : IntKind.i64.wrap d = d := by rw [IntKind.wrap_i64]; omega
    have hlen : ¬ (16 : Int) < (L.length : Int) + 1 := by omega
    rw [← hdd]
    clear hd hdd
    have HL := Lib.hid hL
    go_enter Try.func14, Try.ntmps14
    go_wp2_with ((with_reducible refine wpList_op rfl ?_); intro _ hK; first
      | (refine wp_get _ _ rfl rfl (by kernel_rfl) (raw_at1 (H.heap 1 rfl) rfl) (hK _ _ ?_))
      | (refine wp_get _ _ rfl rfl (by kernel_rfl) (raw_at1 (H.heap 2 rfl) rfl) (hK _ _ ?_))
      | (refine wp_lnew el_64 29 under_i64s rfl H (fun B w' (H : At w0 (row64 (.slice (some ⟨B, 0, none⟩) 0 0) [] :: raw q #[.slice a L.length c] 31 :: row64 (.slice a L.length c) L :: F) w') => hK _ _ ?_))
      | (refine wp_lapp_all el_64 29 under_i64s _ _ rfl (xs := []) (ys := L) rfl H rfl 1 rfl (by simp only [List.length_nil, maxLen]; omega) (by simp only [List.length_nil]; omega) (fun b1 c1 w' (H : At w0 (row64 (.slice b1 L.length c1) L :: raw q #[.slice a L.length c] 31 :: row64 (.slice a L.length c) L :: F) w') => hK _ _ ?_))
      | (refine wp_lbuild el_64 (y := d) 29 under_i64s _ rfl rfl rfl (by omega) (by omega) H (fun C w' H => hK _ _ ?_))
      | (refine wp_lapp_one el_64 (y := d) 29 under_i64s _ _ rfl rfl (H.pull 1 rfl) rfl 0 rfl rfl (by simp only [maxLen]; omega) (by omega) (fun b2 c2 w' H' => (fun (H : At w0 (row64 (.slice b2 (L.length + 1) c2) (L ++ [d]) :: raw C (ic .i64 d).toArray 2 :: raw q #[.slice a L.length c] 31 :: row64 (.slice a L.length c) L :: F) w') => hK _ _ ?_) (by rw [List.length_append] at H'; exact H')))
      | (refine wp_store_sl 29 _ _ rfl rfl (v := .slice b2 (L.length + 1) c2) rfl (by kernel_rfl) rfl 2 H rfl (by simp) (fun w' (H : At w0 (row64 (.slice b2 (L.length + 1) c2) (L ++ [d]) :: raw C (ic .i64 d).toArray 2 :: raw q #[.slice b2 (L.length + 1) c2] 31 :: row64 (.slice a L.length c) L :: F) w') => hK _ _ ?_))
      )
    go_ret
    have e : L.length + 1 = (L ++ [d]).length := by simp
    rw [e] at H
    exact ⟨rfl, rsk_shut ((H.pull 2 rfl).maskR [true, true, false, false])⟩
  · obtain ⟨d, hdd⟩ : ∃ d, d = l - r := ⟨_, rfl⟩
    have hw : IntKind.u64.wrap (l - r) = d := by rw [IntKind.wrap_u64]; omega
    have h2 : d ≤ 9223372036854775807 := by omega
    have hw2 : IntKind.i64.wrap d = d := by rw [IntKind.wrap_i64]; omega
    have hw3 : IntKind.i64.wrap (-d) = -d := by rw [IntKind.wrap_i64]; omega
    have hlen : ¬ (16 : Int) < (L.length : Int) + 1 := by omega
    rw [show r - l = -d by omega]
    clear hd hdd
    have HL := Lib.hid hL
    go_enter Try.func14, Try.ntmps14
    go_wp2_with ((with_reducible refine wpList_op rfl ?_); intro _ hK; first
      | (refine wp_get _ _ rfl rfl (by kernel_rfl) (raw_at1 (H.heap 1 rfl) rfl) (hK _ _ ?_))
      | (refine wp_get _ _ rfl rfl (by kernel_rfl) (raw_at1 (H.heap 2 rfl) rfl) (hK _ _ ?_))
      | (refine wp_lnew el_64 29 under_i64s rfl H (fun B w' (H : At w0 (row64 (.slice (some ⟨B, 0, none⟩) 0 0) [] :: raw q #[.slice a L.length c] 31 :: row64 (.slice a L.length c) L :: F) w') => hK _ _ ?_))
      | (refine wp_lapp_all el_64 29 under_i64s _ _ rfl (xs := []) (ys := L) rfl H rfl 1 rfl (by simp only [List.length_nil, maxLen]; omega) (by simp only [List.length_nil]; omega) (fun b1 c1 w' (H : At w0 (row64 (.slice b1 L.length c1) L :: raw q #[.slice a L.length c] 31 :: row64 (.slice a L.length c) L :: F) w') => hK _ _ ?_))
      | (refine wp_lbuild el_64 (y := (-d)) 29 under_i64s _ rfl rfl rfl (by omega) (by omega) H (fun C w' H => hK _ _ ?_))
      | (refine wp_lapp_one el_64 (y := (-d)) 29 under_i64s _ _ rfl rfl (H.pull 1 rfl) rfl 0 rfl rfl (by simp only [maxLen]; omega) (by omega) (fun b2 c2 w' H' => (fun (H : At w0 (row64 (.slice b2 (L.length + 1) c2) (L ++ [(-d)]) :: raw C (ic .i64 (-d)).toArray 2 :: raw q #[.slice a L.length c] 31 :: row64 (.slice a L.length c) L :: F) w') => hK _ _ ?_) (by rw [List.length_append] at H'; exact H')))
      | (refine wp_store_sl 29 _ _ rfl rfl (v := .slice b2 (L.length + 1) c2) rfl (by kernel_rfl) rfl 2 H rfl (by simp) (fun w' (H : At w0 (row64 (.slice b2 (L.length + 1) c2) (L ++ [(-d)]) :: raw C (ic .i64 (-d)).toArray 2 :: raw q #[.slice b2 (L.length + 1) c2] 31 :: row64 (.slice a L.length c) L :: F) w') => hK _ _ ?_))
      )
    go_ret
    have e : L.length + 1 = (L ++ [-d]).length := by simp
    rw [e] at H
    exact ⟨rfl, rsk_shut ((H.pull 2 rfl).maskR [true, true, false, false])⟩
set_option maxRecDepth 10000 in
set_option maxHeartbeats 1000000 in
theorem radd_full {w0 w : World} {F : List SP} {q : Nat} {L : List Int} {l r : Int} (H : At w0 (rsk q L :: F) w) (hL : L.length = 16) (hb : apB l r = true) (hl0 : 0 ≤ l) (hl1 : l ≤ 18446744073709551615) (hr0 : 0 ≤ r) (hr1 : r ≤ 18446744073709551615) :
    Calls Try.prog 14 #[.pointer (some ⟨q, 0, none⟩), .int .u64 l, .int .u64 r] w fun e w' => e = .returned (.bool true) ∧ At w0 (rsk q ((L ++ [r - l]).drop 1) :: F) w' := by
  have hd := of_decide_eq_true hb
  clear hb
  obtain ⟨a, c, H⟩ := rsk_open H
  by_cases h : l ≤ r
  · obtain ⟨d, hdd⟩ : ∃ d, d = r - l := ⟨_, rfl⟩
    have hw : IntKind.u64.wrap (r - l) = d := by rw [IntKind.wrap_u64]; omega
    have h2 : d ≤ 9223372036854775807 := by omega
    have hw2 : IntKind.i64.wrap d = d := by rw [IntKind.wrap_i64]; omega
    rw [← hdd]
    clear hd hdd
    have hL1 : L.length ≤ 16 := by omega
    have HL := Lib.hid hL
    clear hL
    go_enter Try.func14, Try.ntmps14
    go_wp2_with ((with_reducible refine wpList_op rfl ?_); intro _ hK; first
      | (refine wp_get _ _ rfl rfl (by kernel_rfl) (raw_at1 (H.heap 1 rfl) rfl) (hK _ _ ?_))
      | (refine wp_get _ _ rfl rfl (by kernel_rfl) (raw_at1 (H.heap 2 rfl) rfl) (hK _ _ ?_))
      | (refine wp_lnew el_64 29 under_i64s rfl H (fun B w' (H : At w0 (row64 (.slice (some ⟨B, 0, none⟩) 0 0) [] :: raw q #[.slice a L.length c] 31 :: row64 (.slice a L.length c) L :: F) w') => hK _ _ ?_))
      | (refine wp_lapp_all el_64 29 under_i64s _ _ rfl (xs := []) (ys := L) rfl H rfl 1 rfl (by simp only [List.length_nil, maxLen]; omega) (by simp only [List.length_nil]; omega) (fun b1 c1 w' (H : At w0 (row64 (.slice b1 L.length c1) L :: raw q #[.slice a L.length c] 31 :: row64 (.slice a L.length c) L :: F) w') => hK _ _ ?_))
      | (refine wp_lbuild el_64 (y := d) 29 under_i64s _ rfl rfl rfl (by omega) (by omega) H (fun C w' H => hK _ _ ?_))
      | (refine wp_lapp_one el_64 (y := d) 29 under_i64s _ _ rfl rfl (H.pull 1 rfl) rfl 0 rfl rfl (by simp only [maxLen]; omega) (by omega) (fun b2 c2 w' H' => ?_); obtain ⟨g, off, rfl⟩ := lrow_place H' 0 rfl (by simp); have hcap := row_cap H'; have h17 : (L ++ [d]).length = 17 := by rw [List.length_append, HL.out]; rfl
         rw [h17] at H' hcap ⊢; have H : At w0 (row64 (.slice (some ⟨g, off, none⟩) 17 c2) (L ++ [d]) :: raw C (ic .i64 d).toArray 2 :: raw q #[.slice a L.length c] 31 :: row64 (.slice a L.length c) L :: F) _ := H'; clear H'; have hc1 : ¬ c2 = 1 := by omega
         have hc2 : (17 : Int) ≤ c2 := by omega
         refine hK _ _ ?_)
      | (refine wp_store_sl 29 _ _ rfl rfl (v := .slice (some ⟨g, off, none⟩) 17 c2) rfl (by kernel_rfl) rfl 2 H rfl (by simp) (fun w' (H : At w0 (row64 (.slice (some ⟨g, off, none⟩) 17 c2) (L ++ [d]) :: raw C (ic .i64 d).toArray 2 :: raw q #[.slice (some ⟨g, off, none⟩) 17 c2] 31 :: row64 (.slice a L.length c) L :: F) w') => hK _ _ ?_))
      | (refine wp_store_sl 29 _ _ rfl rfl (v := .slice (some ⟨g, off + 1, none⟩) 16 (c2 - 1)) rfl (by kernel_rfl) rfl 2 H rfl (by simp) (fun w' (H : At w0 (row64 (.slice (some ⟨g, off, none⟩) 17 c2) (L ++ [d]) :: raw C (ic .i64 d).toArray 2 :: raw q #[.slice (some ⟨g, off + 1, none⟩) 16 (c2 - 1)] 31 :: row64 (.slice a L.length c) L :: F) w') => hK _ _ ?_))
      )
    go_ret
    exact ⟨rfl, rsk_tail HL.out H⟩
  · obtain ⟨d, hdd⟩ : ∃ d, d = l - r := ⟨_, rfl⟩
    have hw : IntKind.u64.wrap (l - r) = d := by rw [IntKind.wrap_u64]; omega
    have h2 : d ≤ 9223372036854775807 := by omega
    have hw2 : IntKind.i64.wrap d = d := by rw [IntKind.wrap_i64]; omega
    have hw3 : IntKind.i64.wrap (-d) = -d := by rw [IntKind.wrap_i64]; omega
    rw [show r - l = -d by omega]
    clear hd hdd
    have hL1 : L.length ≤ 16 := by omega
    have HL := Lib.hid hL
    clear hL
    go_enter Try.func14, Try.ntmps14
    go_wp2_with ((with_reducible refine wpList_op rfl ?_); intro _ hK; first
      | (refine wp_get _ _ rfl rfl (by kernel_rfl) (raw_at1 (H.heap 1 rfl) rfl) (hK _ _ ?_))
      | (refine wp_get _ _ rfl rfl (by kernel_rfl) (raw_at1 (H.heap 2 rfl) rfl) (hK _ _ ?_))
      | (refine wp_lnew el_64 29 under_i64s rfl H (fun B w' (H : At w0 (row64 (.slice (some ⟨B, 0, none⟩) 0 0) [] :: raw q #[.slice a L.length c] 31 :: row64 (.slice a L.length c) L :: F) w') => hK _ _ ?_))
      | (refine wp_lapp_all el_64 29 under_i64s _ _ rfl (xs := []) (ys := L) rfl H rfl 1 rfl (by simp only [List.length_nil, maxLen]; omega) (by simp only [List.length_nil]; omega) (fun b1 c1 w' (H : At w0 (row64 (.slice b1 L.length c1) L :: raw q #[.slice a L.length c] 31 :: row64 (.slice a L.length c) L :: F) w') => hK _ _ ?_))
      | (refine wp_lbuild el_64 (y := (-d)) 29 under_i64s _ rfl rfl rfl (by omega) (by omega) H (fun C w' H => hK _ _ ?_))
      | (refine wp_lapp_one el_64 (y := (-d)) 29 under_i64s _ _ rfl rfl (H.pull 1 rfl) rfl 0 rfl rfl (by simp only [maxLen]; omega) (by omega) (fun b2 c2 w' H' => ?_); obtain ⟨g, off, rfl⟩ := lrow_place H' 0 rfl (by simp); have hcap := row_cap H'; have h17 : (L ++ [(-d)]).length = 17 := by rw [List.length_append, HL.out]; rfl
         rw [h17] at H' hcap ⊢; have H : At w0 (row64 (.slice (some ⟨g, off, none⟩) 17 c2) (L ++ [(-d)]) :: raw C (ic .i64 (-d)).toArray 2 :: raw q #[.slice a L.length c] 31 :: row64 (.slice a L.length c) L :: F) _ := H'; clear H'; have hc1 : ¬ c2 = 1 := by omega
         have hc2 : (17 : Int) ≤ c2 := by omega
         refine hK _ _ ?_)
      | (refine wp_store_sl 29 _ _ rfl rfl (v := .slice (some ⟨g, off, none⟩) 17 c2) rfl (by kernel_rfl) rfl 2 H rfl (by simp) (fun w' (H : At w0 (row64 (.slice (some ⟨g, off, none⟩) 17 c2) (L ++ [(-d)]) :: raw C (ic .i64 (-d)).toArray 2 :: raw q #[.slice (some ⟨g, off, none⟩) 17 c2] 31 :: row64 (.slice a L.length c) L :: F) w') => hK _ _ ?_))
      | (refine wp_store_sl 29 _ _ rfl rfl (v := .slice (some ⟨g, off + 1, none⟩) 16 (c2 - 1)) rfl (by kernel_rfl) rfl 2 H rfl (by simp) (fun w' (H : At w0 (row64 (.slice (some ⟨g, off, none⟩) 17 c2) (L ++ [(-d)]) :: raw C (ic .i64 (-d)).toArray 2 :: raw q #[.slice (some ⟨g, off + 1, none⟩) 16 (c2 - 1)] 31 :: row64 (.slice a L.length c) L :: F) w') => hK _ _ ?_))
      )
    go_ret
    first | exact ⟨rfl, rsk_tail HL.out H⟩ | (rw [← List.drop_one]; exact ⟨rfl, rsk_tail HL.out H⟩)
theorem last_add (D : List Int) (d : Int) : last (D ++ [d]) = if (last D).length < 16 then last D ++ [d] else (last D ++ [d]).drop 1 := by
  rw [last_length]
  by_cases h : D.length < 16
  · rw [if_pos (by omega)]
    unfold last
    rw [show (D ++ [d]).length - 16 = 0 by simp; omega, show D.length - 16 = 0 by omega]
    rfl
  · rw [if_neg (by omega)]
    unfold last
    rw [show (D ++ [d]).length - 16 = (D.length - 16) + 1 by simp; omega, ← List.drop_drop, List.drop_append_of_le_length (by omega)]
theorem radd_c {w0 w : World} {F : List SP} {q : Nat} {D : List Int} {l r : Int} (H : At w0 (rsk q (last D) :: F) w) (hl0 : 0 ≤ l) (hl1 : l ≤ 18446744073709551615) (hr0 : 0 ≤ r) (hr1 : r ≤ 18446744073709551615) :
    Calls Try.prog 14 #[.pointer (some ⟨q, 0, none⟩), .int .u64 l, .int .u64 r] w fun e w' => e = .returned (.bool (apB l r)) ∧ At w0 (rsk q (last (if apB l r = true then D ++ [apZ l r] else D)) :: F) w' := by
  cases hb : apB l r
  · rw [if_neg (by simp)]
    exact radd_no H hb hl0 hl1 hr0 hr1
  · rw [if_pos rfl, last_add, show apZ l r = r - l by unfold apZ; rw [if_pos hb]]
    by_cases h : (last D).length < 16
    · rw [if_pos h]
      exact radd_few H h hb hl0 hl1 hr0 hr1
    · rw [if_neg h]
      exact radd_full H (by have := last_length D; omega) hb hl0 hl1 hr0 hr1
end Go.Proofs.Ythhmgodnmgmjdaa
