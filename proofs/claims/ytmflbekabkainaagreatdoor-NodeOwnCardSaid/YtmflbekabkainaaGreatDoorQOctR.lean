import Derived.Test.YtmflbekabkainaaGreatDoorQOctW
set_option linter.unusedVariables false
set_option linter.unusedSimpArgs false
namespace Go.Hg
open Go.RowKit
theorem At.lrow_from {α : Type} {P : Program} {e : TypeId} {size by_ : Nat} {c : α → List Value} {w w0 : World} {L : List SP} (E : El P e size by_ c) {xs : List α} {a : Option Addr} {n cap k : Nat} (H : At w0 (lrow e size c (.slice a n cap) xs :: L) w) (hn : n = xs.length) (hk : k ≤ n) : At w0 (lrow e size c (sliced a k n cap size) (xs.drop k) :: L) w := by
 subst hn
 unfold lrow at H ⊢
 have hl : (xs.drop k).length = xs.length - k := List.length_drop
 rw [hl, ← E.cl_drop]
 have H' := H
 rcases At.rows_value H with ⟨h1, h2, h3⟩ | ⟨g, off, cap', h1, h2, h3, _⟩
 · have hx : xs = [] := List.eq_nil_of_length_eq_zero h2
   subst hx
   cases h1
   have : k = 0 := by simpa using hk
   subst this
   simpa [sliced, cl] using H'
 · cases h1
   unfold sliced
   by_cases hc : cap = k
   · have : xs.length = k := by omega
     rw [if_pos hc]
     have H2 := At.rows_none H'
     rw [hc, this, Nat.sub_self]
     have e2 : (cl c xs).drop (k * size) = [] := List.drop_of_length_le (by rw [E.cl_length, this]; exact Nat.le_refl _)
     rw [e2]
     exact H2
   · rw [if_neg hc]
     have H2 := At.rows_drop H' hk
     rw [Option.map_some, Addr.add_lit]
     exact H2
theorem lrow_place_n {α : Type} {e : TypeId} {size : Nat} {c : α → List Value} {w w0 : World} {L : List SP} {xs : List α} {a : Option Addr} {n q : Nat} (hn : n = xs.length) (H : At w0 L w) (k : Nat) (hk : L[k]? = some (lrow e size c (.slice a n q) xs)) (h0 : 0 < n) : ∃ g off, a = some ⟨g, off, none⟩ := by
 subst hn
 exact lrow_place H k hk h0
theorem lrow_cell_n {α : Type} {P : Program} {e : TypeId} {size by_ : Nat} {c : α → List Value} {w w0 : World} {L : List SP} (E : El P e size by_ c) {xs : List α} {g off n cap i j : Nat} {x : α} {v : Value} (hn : n = xs.length) (H : At w0 L w) (k : Nat) (hk : L[k]? = some (lrow e size c (.slice (some ⟨g, off, none⟩) n cap) xs)) (hx : xs[i]? = some x) (hj : (c x)[j]? = some v) :
    w.cell? ⟨g, off + i * size + j, none⟩ = some v := by
 subst hn
 exact lrow_cell E H k hk hx hj
theorem de_step (D : Nat) (hD : D < 2 ^ 56) (c : BitVec 8) : (BitVec.ofNat 64 D) <<< 8 ||| c.setWidth 64 = BitVec.ofNat 64 (D * 256 + c.toNat) := by
 apply BitVec.eq_of_toNat_eq
 have hc := c.isLt
 rw [BitVec.toNat_or, BitVec.toNat_shiftLeft, BitVec.toNat_setWidth, BitVec.toNat_ofNat, BitVec.toNat_ofNat, Nat.mod_eq_of_lt (a := D) (by omega), Nat.mod_eq_of_lt (a := c.toNat) (by omega), Nat.mod_eq_of_lt (a := D * 256 + c.toNat) (by omega)]
 have h := Nat.shiftLeft_add_eq_or_of_lt (i := 8) (b := c.toNat) (by omega) D
 have e : D <<< 8 = D * 256 := by rw [Nat.shiftLeft_eq]
 rw [e] at h ⊢
 rw [Nat.mod_eq_of_lt (by omega)]
 exact h.symm
theorem deN_take_lt {bs : List (BitVec 8)} {i : Nat} (h : i ≤ 7) : deN (bs.take i) < 2 ^ 56 := by
 have h1 := deN_lt (bs.take i)
 have h2 : (bs.take i).length ≤ 7 := by rw [List.length_take]; omega
 have h3 : 256 ^ (bs.take i).length ≤ 256 ^ 7 := Nat.pow_le_pow_right (by omega) h2
 have h4 : 256 ^ 7 = 2 ^ 56 := by decide
 omega
theorem deN_take_succ {bs : List (BitVec 8)} {i : Nat} (h : i < bs.length) : deN (bs.take (i + 1)) = deN (bs.take i) * 256 + (gb bs i).toNat := by
 rw [List.take_add_one, gb_get h]
 exact deN_snoc _ _
end Go.Hg
namespace Go.Proofs.YtmflbekabkainaaGreatDoor
open Go.RowKit Go.Hg
def rdr (p : Nat) (bs : List (BitVec 8)) : SP := fun hp => ∃ a q, seps [raw p #[.slice a bs.length q] 212, lrow 5 1 c8 (.slice a bs.length q) bs] hp
theorem rdr_open {w0 w : World} {F : List SP} {p : Nat} {bs : List (BitVec 8)} (H : At w0 (rdr p bs :: F) w) : ∃ a q, At w0 (raw p #[.slice a bs.length q] 212 :: lrow 5 1 c8 (.slice a bs.length q) bs :: F) w := by
 obtain ⟨bel, h, ⟨h1, h2, ⟨a, q, p⟩, q', r⟩, t, u⟩ := H
 exact ⟨a, q, At.opened (A := [_, _]) ⟨bel, h, ⟨h1, h2, p, q', r⟩, t, u⟩ fun _ x => x⟩
theorem rdr_close {w0 w : World} {F : List SP} {p n q : Nat} {a : Option Addr} {bs : List (BitVec 8)} (hn : n = bs.length) (H : At w0 (raw p #[.slice a n q] 212 :: lrow 5 1 c8 (.slice a n q) bs :: F) w) : At w0 (rdr p bs :: F) w := by
 subst hn
 exact At.closed (A := [_, _]) H fun _ x => ⟨a, q, x⟩
def NewR (w0 : World) (F : List SP) (bs : List (BitVec 8)) (e : Ending) (w' : World) : Prop := ∃ p, e = .returned (.pointer (some ⟨p, 0, none⟩)) ∧ At w0 (rdr p bs :: F) w'
set_option maxRecDepth 10000 in
theorem read_c {w0 w : World} {F : List SP} {bs : List (BitVec 8)} {v : Value} (H : At w0 F w) (hv : SeeB w0 F v bs) (hb : bs.length ≤ 1000000000) :
    Calls Tryz.prog 84 #[v] w (NewR w0 F bs) := by
 have hv1 := hv.one
 go_enter Tryz.func84, Tryz.ntmps84
 go_wp2_with fail
 refine (clone_c H hv hb).mono ?_; rintro e w' ⟨a2, q2, rfl, H⟩
 obtain ⟨n2, hn2⟩ : ∃ n2, n2 = bs.length := ⟨_, rfl⟩
 rw [← hn2] at H ⊢
 have HN2 := Lib.hid hn2
 clear hn2
 go_wp2_with ((with_reducible refine wpList_op rfl ?_); intro _ hK; refine wp_box_sl (v := .agg #[.slice a2 n2 q2]) 212 _ rfl rfl H (fun p w' (H : At w0 (raw p #[.slice a2 n2 q2] 212 :: lrow 5 1 c8 (.slice a2 n2 q2) bs :: F) w') _ => hK _ _ ?_))
 go_ret
 exact ⟨p, rfl, rdr_close HN2.out H⟩
def TookB (w0 : World) (F : List SP) (p n : Nat) (bs : List (BitVec 8)) (e : Ending) (w' : World) : Prop := ∃ a q, e = .returned (.tuple #[.slice a n q, .int .i64 0]) ∧ At w0 (lrow 5 1 c8 (.slice a n q) (bs.take n) :: rdr p (bs.drop n) :: F) w'
set_option maxRecDepth 10000 in
set_option maxHeartbeats 1000000 in
theorem rbytes_c {w0 w : World} {F : List SP} {p n : Nat} {bs : List (BitVec 8)} (H : At w0 (rdr p bs :: F) w) (hn : n ≤ bs.length) (hb : bs.length ≤ 1000000000) :
    Calls Tryz.prog 113 #[.pointer (some ⟨p, 0, none⟩), .int .i64 n] w (TookB w0 F p n bs) := by
 obtain ⟨a, q, H⟩ := rdr_open H
 obtain ⟨l, hl⟩ : ∃ l, l = bs.length := ⟨_, rfl⟩
 rw [← hl] at H
 have hnl : (n : Int) ≤ l := by omega
 have hnl2 : n ≤ l := by omega
 have hlb : (l : Int) ≤ 1000000000 := by omega
 have hse := see_own el_u8 H 1 hl rfl
 obtain ⟨v1, hv1, hr1⟩ := hse.upto el_u8 under_bytes elem_bytes hn
 have hr2 : ∀ w, (Instr.sliceAt 33 (.slice a l q) (some (.int .i64 (n : Int))) none none).run Tryz.prog w = .ok (sliced a n l q 1) w := fun w => by
  rw [run_sliceAt_slice w 33 _ _ _ _ under_bytes, run_slice_l w 33 a l q under_bytes .i64 (n : Int) (by omega) (by omega)]
  rfl
 have htl : (bs.take n).length = n := by rw [List.length_take]; omega
 have HV1 := Lib.hid hv1
 have HTL := Lib.hid htl
 have HL := Lib.hid hl
 have HN := Lib.hid hn
 have hv1o := hv1.one
 obtain ⟨v2, hv2⟩ : ∃ v2, v2 = sliced a n l q 1 := ⟨_, rfl⟩
 rw [← hv2] at hr2
 have HV2 := Lib.hid hv2
 clear hse hv1 htl hl hn hb hv2
 go_enter Tryz.func113, Tryz.ntmps113
 go_wp2_with ((with_reducible refine wpList_op rfl ?_); intro _ hK; first
  | (refine wp_get 33 _ rfl rfl (by kernel_rfl) (at_raw H 0 rfl (cs := [.slice a l q]) rfl) (hK _ _ ?_))
  | (refine wp_slice 33 _ _ _ _ rfl (hr1 _) (hK _ _ ?_)))
 refine (clone_c H HV1.out (by rw [HTL.out]; omega)).mono ?_; rintro e w' ⟨a2, q2, rfl, H⟩
 rw [HTL.out] at H ⊢
 go_wp2_with ((with_reducible refine wpList_op rfl ?_); intro _ hK; first
  | (refine wp_get 33 _ rfl rfl (by kernel_rfl) (at_raw H 1 rfl (cs := [.slice a l q]) rfl) (hK _ _ ?_))
  | (refine wp_slice 33 _ _ _ _ rfl (hr2 _) (hK _ _ ?_))
  | (refine wp_store_sl 33 _ _ rfl (off := 0) (v := v2) rfl rfl (by kernel_rfl) (by rw [HV2.out]; rfl) 1 H rfl (by show 0 < 1; omega) (fun w' (H : At w0 (lrow 5 1 c8 (.slice a2 n q2) (bs.take n) :: raw p #[v2] 212 :: lrow 5 1 c8 (.slice a l q) bs :: F) w') => hK _ _ ?_)))
 have H2 := (H.pull 2 rfl).lrow_from el_u8 HL.out hnl2
 rw [HV2.out] at H2
 have H3 := rdr_close (bs := bs.drop n) (n := l - n) (by rw [List.length_drop, ← HL.out]) ((H2.pull 2 rfl))
 go_ret2
 exact ⟨a2, q2, rfl, H3.pull 1 rfl⟩
set_option maxRecDepth 10000 in
set_option maxHeartbeats 1000000 in
theorem take8_c {w0 w : World} {F : List SP} {p size : Nat} {bs : List (BitVec 8)} (H : At w0 (rdr p bs :: F) w) (h0 : 0 < size) (hs : size ≤ 8) (hn : size ≤ bs.length) (hb : bs.length ≤ 1000000000) (hw : IntKind.u8.wrap (deN (bs.take size) : Int) = (deN (bs.take size) : Int)) :
    Calls Tryz.prog 149 #[.pointer (some ⟨p, 0, none⟩), .int .i64 size] w fun e w' => e = .returned (.tuple #[.int .u8 (deN (bs.take size)), .int .i64 0]) ∧ At w0 (rdr p (bs.drop size) :: F) w' := by
 obtain ⟨D, hD⟩ : ∃ D, D = deN (bs.take size) := ⟨_, rfl⟩
 rw [← hD] at hw
 rw [← hD]
 have HD := Lib.hid hD
 have HN := Lib.hid hn
 have HB := Lib.hid hb
 have HW := Lib.hid hw
 clear hD hn hb hw
 go_enter Tryz.func149, Tryz.ntmps149
 go_wp2_with fail
 refine (rbytes_c H HN.out HB.out).mono ?_; rintro e w' ⟨a, q, rfl, H⟩
 have hl : (bs.take size).length = size := by rw [List.length_take]; have := HN.out; omega
 obtain ⟨g, off, rfl⟩ := lrow_place_n hl.symm H 0 rfl h0
 have HL := Lib.hid hl
 clear hl
 have hs' : (size : Int) ≤ 8 := by omega
 have e0 : iv (BitVec.ofNat 64 0) = 0 := rfl
 go_wp2_with fail
 go_loopw [18, 7] (fun i x wr => ∃ (j : Nat) (X : BitVec 64), j ≤ size ∧ i = .int .i64 j ∧ x = .int .u64 (iv X) ∧ X = BitVec.ofNat 64 (deN (bs.take j)) ∧ At w0 (lrow 5 1 c8 (.slice (some ⟨g, off, none⟩) size q) (bs.take size) :: rdr p (bs.drop size) :: F) wr) (fun i _ _ => size - (intOf i).toNat)
 case atStart => exact ⟨0, BitVec.ofNat 64 0, Nat.zero_le _, rfl, rfl, rfl, H⟩
 case round =>
  clear H e0
  obtain ⟨j, X, hj, rfl, rfl, hX, H⟩ := hrel
  by_cases hlt : (j : Int) < size
  · have hjl : j < bs.length := by have := HN.out; omega
    obtain ⟨c, hc⟩ : ∃ c, c = gb bs j := ⟨_, rfl⟩
    have hcell : (bs.take size)[j]? = some c := by rw [List.getElem?_take, if_pos (by omega), gb_get hjl, hc]
    have hcw : w'.cell? ⟨g, off, none⟩ = w'.cell? ⟨g, off, none⟩ := rfl
    have hrd : ∀ wr, At w0 (lrow 5 1 c8 (.slice (some ⟨g, off, none⟩) size q) (bs.take size) :: rdr p (bs.drop size) :: F) wr → wr.cell? ⟨g, off + j, none⟩ = some (.int .u8 (iv c)) := fun wr Hr => by
     have := lrow_cell_n el_u8 (j := 0) HL.out.symm Hr 0 rfl hcell (v := .int .u8 (iv c)) rfl
     simpa using this
    obtain ⟨Y, hY⟩ : ∃ Y : BitVec 64, Y = X <<< 8 := ⟨_, rfl⟩
    obtain ⟨z, hz⟩ : ∃ z : BitVec 64, z = c.setWidth 64 := ⟨_, rfl⟩
    obtain ⟨X2, hX2⟩ : ∃ X2 : BitVec 64, X2 = Y ||| z := ⟨_, rfl⟩
    have e1 : IntKind.u64.wrap (iv X * 256) = iv Y := by rw [hY]; exact iv_shl64 X 8
    have e2 : IntKind.u64.wrap (iv c) = iv z := by rw [hz]; exact iv_8_64 c
    have e3 : bits .or .u64 (iv Y) (iv z) = iv X2 := by rw [hX2]; exact iv_or64 Y z
    have hX3 : X2 = BitVec.ofNat 64 (deN (bs.take (j + 1))) := by rw [hX2, hY, hz, hX, hc, de_step _ (deN_take_lt (by omega)), deN_take_succ hjl]
    have HX3 := Lib.hid hX3
    have hcn := iv_nonneg c
    have hc255 := iv8_le c
    clear hX hX2 hY hz hc hX3 hcell hcw
    go_wp2_with ((with_reducible refine wpList_op rfl ?_); intro _ hK; refine wp_get 5 _ rfl rfl (by kernel_rfl) (hrd _ H) (hK _ _ ?_))
    first
     | (refine ⟨?_, ?measure⟩; iterate 220 (try apply Exists.intro); refine ⟨?rel, rfl⟩)
     | refine ⟨?rel, ?measure⟩
    case rel => exact ⟨j + 1, X2, by omega, by go_num, rfl, HX3.out, H⟩
    case measure => simp [intOf]; omega
  · obtain rfl : j = size := by omega
    have hD56 : D < 2 ^ 64 := by
     rw [HD.out]
     have h1 := deN_lt (bs.take j)
     have h3 : 256 ^ (bs.take j).length ≤ 256 ^ 8 := Nat.pow_le_pow_right (by omega) (by rw [HL.out]; omega)
     have h4 : 256 ^ 8 = 2 ^ 64 := by decide
     omega
    have eX : iv X = (D : Int) := by
     rw [hX, ← HD.out]
     unfold iv
     rw [BitVec.toNat_ofNat, Nat.mod_eq_of_lt hD56]
    have hw := HW.out
    clear hX hD56
    go_wp2_with fail
    go_ret2
    exact ⟨by simp [eX], H.tail⟩
set_option maxRecDepth 10000 in
set_option maxHeartbeats 1000000 in
theorem take16_c {w0 w : World} {F : List SP} {p size : Nat} {bs : List (BitVec 8)} (H : At w0 (rdr p bs :: F) w) (h0 : 0 < size) (hs : size ≤ 8) (hn : size ≤ bs.length) (hb : bs.length ≤ 1000000000) (hw : IntKind.u16.wrap (deN (bs.take size) : Int) = (deN (bs.take size) : Int)) :
    Calls Tryz.prog 111 #[.pointer (some ⟨p, 0, none⟩), .int .i64 size] w fun e w' => e = .returned (.tuple #[.int .u16 (deN (bs.take size)), .int .i64 0]) ∧ At w0 (rdr p (bs.drop size) :: F) w' := by
 obtain ⟨D, hD⟩ : ∃ D, D = deN (bs.take size) := ⟨_, rfl⟩
 rw [← hD] at hw
 rw [← hD]
 have HD := Lib.hid hD
 have HN := Lib.hid hn
 have HB := Lib.hid hb
 have HW := Lib.hid hw
 clear hD hn hb hw
 go_enter Tryz.func111, Tryz.ntmps111
 go_wp2_with fail
 refine (rbytes_c H HN.out HB.out).mono ?_; rintro e w' ⟨a, q, rfl, H⟩
 have hl : (bs.take size).length = size := by rw [List.length_take]; have := HN.out; omega
 obtain ⟨g, off, rfl⟩ := lrow_place_n hl.symm H 0 rfl h0
 have HL := Lib.hid hl
 clear hl
 have hs' : (size : Int) ≤ 8 := by omega
 have e0 : iv (BitVec.ofNat 64 0) = 0 := rfl
 go_wp2_with fail
 go_loopw [18, 7] (fun i x wr => ∃ (j : Nat) (X : BitVec 64), j ≤ size ∧ i = .int .i64 j ∧ x = .int .u64 (iv X) ∧ X = BitVec.ofNat 64 (deN (bs.take j)) ∧ At w0 (lrow 5 1 c8 (.slice (some ⟨g, off, none⟩) size q) (bs.take size) :: rdr p (bs.drop size) :: F) wr) (fun i _ _ => size - (intOf i).toNat)
 case atStart => exact ⟨0, BitVec.ofNat 64 0, Nat.zero_le _, rfl, rfl, rfl, H⟩
 case round =>
  clear H e0
  obtain ⟨j, X, hj, rfl, rfl, hX, H⟩ := hrel
  by_cases hlt : (j : Int) < size
  · have hjl : j < bs.length := by have := HN.out; omega
    obtain ⟨c, hc⟩ : ∃ c, c = gb bs j := ⟨_, rfl⟩
    have hcell : (bs.take size)[j]? = some c := by rw [List.getElem?_take, if_pos (by omega), gb_get hjl, hc]
    have hcw : w'.cell? ⟨g, off, none⟩ = w'.cell? ⟨g, off, none⟩ := rfl
    have hrd : ∀ wr, At w0 (lrow 5 1 c8 (.slice (some ⟨g, off, none⟩) size q) (bs.take size) :: rdr p (bs.drop size) :: F) wr → wr.cell? ⟨g, off + j, none⟩ = some (.int .u8 (iv c)) := fun wr Hr => by
     have := lrow_cell_n el_u8 (j := 0) HL.out.symm Hr 0 rfl hcell (v := .int .u8 (iv c)) rfl
     simpa using this
    obtain ⟨Y, hY⟩ : ∃ Y : BitVec 64, Y = X <<< 8 := ⟨_, rfl⟩
    obtain ⟨z, hz⟩ : ∃ z : BitVec 64, z = c.setWidth 64 := ⟨_, rfl⟩
    obtain ⟨X2, hX2⟩ : ∃ X2 : BitVec 64, X2 = Y ||| z := ⟨_, rfl⟩
    have e1 : IntKind.u64.wrap (iv X * 256) = iv Y := by rw [hY]; exact iv_shl64 X 8
    have e2 : IntKind.u64.wrap (iv c) = iv z := by rw [hz]; exact iv_8_64 c
    have e3 : bits .or .u64 (iv Y) (iv z) = iv X2 := by rw [hX2]; exact iv_or64 Y z
    have hX3 : X2 = BitVec.ofNat 64 (deN (bs.take (j + 1))) := by rw [hX2, hY, hz, hX, hc, de_step _ (deN_take_lt (by omega)), deN_take_succ hjl]
    have HX3 := Lib.hid hX3
    have hcn := iv_nonneg c
    have hc255 := iv8_le c
    clear hX hX2 hY hz hc hX3 hcell hcw
    go_wp2_with ((with_reducible refine wpList_op rfl ?_); intro _ hK; refine wp_get 5 _ rfl rfl (by kernel_rfl) (hrd _ H) (hK _ _ ?_))
    first
     | (refine ⟨?_, ?measure⟩; iterate 220 (try apply Exists.intro); refine ⟨?rel, rfl⟩)
     | refine ⟨?rel, ?measure⟩
    case rel => exact ⟨j + 1, X2, by omega, by go_num, rfl, HX3.out, H⟩
    case measure => simp [intOf]; omega
  · obtain rfl : j = size := by omega
    have hD56 : D < 2 ^ 64 := by
     rw [HD.out]
     have h1 := deN_lt (bs.take j)
     have h3 : 256 ^ (bs.take j).length ≤ 256 ^ 8 := Nat.pow_le_pow_right (by omega) (by rw [HL.out]; omega)
     have h4 : 256 ^ 8 = 2 ^ 64 := by decide
     omega
    have eX : iv X = (D : Int) := by
     rw [hX, ← HD.out]
     unfold iv
     rw [BitVec.toNat_ofNat, Nat.mod_eq_of_lt hD56]
    have hw := HW.out
    clear hX hD56
    go_wp2_with fail
    go_ret2
    exact ⟨by simp [eX], H.tail⟩
set_option maxRecDepth 10000 in
set_option maxHeartbeats 1000000 in
theorem take32_c {w0 w : World} {F : List SP} {p size : Nat} {bs : List (BitVec 8)} (H : At w0 (rdr p bs :: F) w) (h0 : 0 < size) (hs : size ≤ 8) (hn : size ≤ bs.length) (hb : bs.length ≤ 1000000000) (hw : IntKind.u32.wrap (deN (bs.take size) : Int) = (deN (bs.take size) : Int)) :
    Calls Tryz.prog 112 #[.pointer (some ⟨p, 0, none⟩), .int .i64 size] w fun e w' => e = .returned (.tuple #[.int .u32 (deN (bs.take size)), .int .i64 0]) ∧ At w0 (rdr p (bs.drop size) :: F) w' := by
 obtain ⟨D, hD⟩ : ∃ D, D = deN (bs.take size) := ⟨_, rfl⟩
 rw [← hD] at hw
 rw [← hD]
 have HD := Lib.hid hD
 have HN := Lib.hid hn
 have HB := Lib.hid hb
 have HW := Lib.hid hw
 clear hD hn hb hw
 go_enter Tryz.func112, Tryz.ntmps112
 go_wp2_with fail
 refine (rbytes_c H HN.out HB.out).mono ?_; rintro e w' ⟨a, q, rfl, H⟩
 have hl : (bs.take size).length = size := by rw [List.length_take]; have := HN.out; omega
 obtain ⟨g, off, rfl⟩ := lrow_place_n hl.symm H 0 rfl h0
 have HL := Lib.hid hl
 clear hl
 have hs' : (size : Int) ≤ 8 := by omega
 have e0 : iv (BitVec.ofNat 64 0) = 0 := rfl
 go_wp2_with fail
 go_loopw [18, 7] (fun i x wr => ∃ (j : Nat) (X : BitVec 64), j ≤ size ∧ i = .int .i64 j ∧ x = .int .u64 (iv X) ∧ X = BitVec.ofNat 64 (deN (bs.take j)) ∧ At w0 (lrow 5 1 c8 (.slice (some ⟨g, off, none⟩) size q) (bs.take size) :: rdr p (bs.drop size) :: F) wr) (fun i _ _ => size - (intOf i).toNat)
 case atStart => exact ⟨0, BitVec.ofNat 64 0, Nat.zero_le _, rfl, rfl, rfl, H⟩
 case round =>
  clear H e0
  obtain ⟨j, X, hj, rfl, rfl, hX, H⟩ := hrel
  by_cases hlt : (j : Int) < size
  · have hjl : j < bs.length := by have := HN.out; omega
    obtain ⟨c, hc⟩ : ∃ c, c = gb bs j := ⟨_, rfl⟩
    have hcell : (bs.take size)[j]? = some c := by rw [List.getElem?_take, if_pos (by omega), gb_get hjl, hc]
    have hcw : w'.cell? ⟨g, off, none⟩ = w'.cell? ⟨g, off, none⟩ := rfl
    have hrd : ∀ wr, At w0 (lrow 5 1 c8 (.slice (some ⟨g, off, none⟩) size q) (bs.take size) :: rdr p (bs.drop size) :: F) wr → wr.cell? ⟨g, off + j, none⟩ = some (.int .u8 (iv c)) := fun wr Hr => by
     have := lrow_cell_n el_u8 (j := 0) HL.out.symm Hr 0 rfl hcell (v := .int .u8 (iv c)) rfl
     simpa using this
    obtain ⟨Y, hY⟩ : ∃ Y : BitVec 64, Y = X <<< 8 := ⟨_, rfl⟩
    obtain ⟨z, hz⟩ : ∃ z : BitVec 64, z = c.setWidth 64 := ⟨_, rfl⟩
    obtain ⟨X2, hX2⟩ : ∃ X2 : BitVec 64, X2 = Y ||| z := ⟨_, rfl⟩
    have e1 : IntKind.u64.wrap (iv X * 256) = iv Y := by rw [hY]; exact iv_shl64 X 8
    have e2 : IntKind.u64.wrap (iv c) = iv z := by rw [hz]; exact iv_8_64 c
    have e3 : bits .or .u64 (iv Y) (iv z) = iv X2 := by rw [hX2]; exact iv_or64 Y z
    have hX3 : X2 = BitVec.ofNat 64 (deN (bs.take (j + 1))) := by rw [hX2, hY, hz, hX, hc, de_step _ (deN_take_lt (by omega)), deN_take_succ hjl]
    have HX3 := Lib.hid hX3
    have hcn := iv_nonneg c
    have hc255 := iv8_le c
    clear hX hX2 hY hz hc hX3 hcell hcw
    go_wp2_with ((with_reducible refine wpList_op rfl ?_); intro _ hK; refine wp_get 5 _ rfl rfl (by kernel_rfl) (hrd _ H) (hK _ _ ?_))
    first
     | (refine ⟨?_, ?measure⟩; iterate 220 (try apply Exists.intro); refine ⟨?rel, rfl⟩)
     | refine ⟨?rel, ?measure⟩
    case rel => exact ⟨j + 1, X2, by omega, by go_num, rfl, HX3.out, H⟩
    case measure => simp [intOf]; omega
  · obtain rfl : j = size := by omega
    have hD56 : D < 2 ^ 64 := by
     rw [HD.out]
     have h1 := deN_lt (bs.take j)
     have h3 : 256 ^ (bs.take j).length ≤ 256 ^ 8 := Nat.pow_le_pow_right (by omega) (by rw [HL.out]; omega)
     have h4 : 256 ^ 8 = 2 ^ 64 := by decide
     omega
    have eX : iv X = (D : Int) := by
     rw [hX, ← HD.out]
     unfold iv
     rw [BitVec.toNat_ofNat, Nat.mod_eq_of_lt hD56]
    have hw := HW.out
    clear hX hD56
    go_wp2_with fail
    go_ret2
    exact ⟨by simp [eX], H.tail⟩
set_option maxRecDepth 10000 in
set_option maxHeartbeats 1000000 in
theorem take64_c {w0 w : World} {F : List SP} {p size : Nat} {bs : List (BitVec 8)} (H : At w0 (rdr p bs :: F) w) (h0 : 0 < size) (hs : size ≤ 8) (hn : size ≤ bs.length) (hb : bs.length ≤ 1000000000) (hw : IntKind.u64.wrap (deN (bs.take size) : Int) = (deN (bs.take size) : Int)) :
    Calls Tryz.prog 150 #[.pointer (some ⟨p, 0, none⟩), .int .i64 size] w fun e w' => e = .returned (.tuple #[.int .u64 (deN (bs.take size)), .int .i64 0]) ∧ At w0 (rdr p (bs.drop size) :: F) w' := by
 obtain ⟨D, hD⟩ : ∃ D, D = deN (bs.take size) := ⟨_, rfl⟩
 rw [← hD] at hw
 rw [← hD]
 have HD := Lib.hid hD
 have HN := Lib.hid hn
 have HB := Lib.hid hb
 have HW := Lib.hid hw
 clear hD hn hb hw
 go_enter Tryz.func150, Tryz.ntmps150
 go_wp2_with fail
 refine (rbytes_c H HN.out HB.out).mono ?_; rintro e w' ⟨a, q, rfl, H⟩
 have hl : (bs.take size).length = size := by rw [List.length_take]; have := HN.out; omega
 obtain ⟨g, off, rfl⟩ := lrow_place_n hl.symm H 0 rfl h0
 have HL := Lib.hid hl
 clear hl
 have hs' : (size : Int) ≤ 8 := by omega
 have e0 : iv (BitVec.ofNat 64 0) = 0 := rfl
 go_wp2_with fail
 go_loopw [18, 7] (fun i x wr => ∃ (j : Nat) (X : BitVec 64), j ≤ size ∧ i = .int .i64 j ∧ x = .int .u64 (iv X) ∧ X = BitVec.ofNat 64 (deN (bs.take j)) ∧ At w0 (lrow 5 1 c8 (.slice (some ⟨g, off, none⟩) size q) (bs.take size) :: rdr p (bs.drop size) :: F) wr) (fun i _ _ => size - (intOf i).toNat)
 case atStart => exact ⟨0, BitVec.ofNat 64 0, Nat.zero_le _, rfl, rfl, rfl, H⟩
 case round =>
  clear H e0
  obtain ⟨j, X, hj, rfl, rfl, hX, H⟩ := hrel
  by_cases hlt : (j : Int) < size
  · have hjl : j < bs.length := by have := HN.out; omega
    obtain ⟨c, hc⟩ : ∃ c, c = gb bs j := ⟨_, rfl⟩
    have hcell : (bs.take size)[j]? = some c := by rw [List.getElem?_take, if_pos (by omega), gb_get hjl, hc]
    have hcw : w'.cell? ⟨g, off, none⟩ = w'.cell? ⟨g, off, none⟩ := rfl
    have hrd : ∀ wr, At w0 (lrow 5 1 c8 (.slice (some ⟨g, off, none⟩) size q) (bs.take size) :: rdr p (bs.drop size) :: F) wr → wr.cell? ⟨g, off + j, none⟩ = some (.int .u8 (iv c)) := fun wr Hr => by
     have := lrow_cell_n el_u8 (j := 0) HL.out.symm Hr 0 rfl hcell (v := .int .u8 (iv c)) rfl
     simpa using this
    obtain ⟨Y, hY⟩ : ∃ Y : BitVec 64, Y = X <<< 8 := ⟨_, rfl⟩
    obtain ⟨z, hz⟩ : ∃ z : BitVec 64, z = c.setWidth 64 := ⟨_, rfl⟩
    obtain ⟨X2, hX2⟩ : ∃ X2 : BitVec 64, X2 = Y ||| z := ⟨_, rfl⟩
    have e1 : IntKind.u64.wrap (iv X * 256) = iv Y := by rw [hY]; exact iv_shl64 X 8
    have e2 : IntKind.u64.wrap (iv c) = iv z := by rw [hz]; exact iv_8_64 c
    have e3 : bits .or .u64 (iv Y) (iv z) = iv X2 := by rw [hX2]; exact iv_or64 Y z
    have hX3 : X2 = BitVec.ofNat 64 (deN (bs.take (j + 1))) := by rw [hX2, hY, hz, hX, hc, de_step _ (deN_take_lt (by omega)), deN_take_succ hjl]
    have HX3 := Lib.hid hX3
    have hcn := iv_nonneg c
    have hc255 := iv8_le c
    clear hX hX2 hY hz hc hX3 hcell hcw
    go_wp2_with ((with_reducible refine wpList_op rfl ?_); intro _ hK; refine wp_get 5 _ rfl rfl (by kernel_rfl) (hrd _ H) (hK _ _ ?_))
    first
     | (refine ⟨?_, ?measure⟩; iterate 220 (try apply Exists.intro); refine ⟨?rel, rfl⟩)
     | refine ⟨?rel, ?measure⟩
    case rel => exact ⟨j + 1, X2, by omega, by go_num, rfl, HX3.out, H⟩
    case measure => simp [intOf]; omega
  · obtain rfl : j = size := by omega
    have hD56 : D < 2 ^ 64 := by
     rw [HD.out]
     have h1 := deN_lt (bs.take j)
     have h3 : 256 ^ (bs.take j).length ≤ 256 ^ 8 := Nat.pow_le_pow_right (by omega) (by rw [HL.out]; omega)
     have h4 : 256 ^ 8 = 2 ^ 64 := by decide
     omega
    have eX : iv X = (D : Int) := by
     rw [hX, ← HD.out]
     unfold iv
     rw [BitVec.toNat_ofNat, Nat.mod_eq_of_lt hD56]
    have hw := HW.out
    clear hX hD56
    go_wp2_with fail
    go_ret2
    exact ⟨by simp [eX], H.tail⟩
set_option maxRecDepth 10000 in
theorem ru8_c {w0 w : World} {F : List SP} {p : Nat} {bs : List (BitVec 8)} (H : At w0 (rdr p bs :: F) w) (hn : 1 ≤ bs.length) (hb : bs.length ≤ 1000000000) :
    Calls Tryz.prog 131 #[.pointer (some ⟨p, 0, none⟩)] w fun e w' => e = .returned (.tuple #[.int .u8 (deN (bs.take 1)), .int .i64 0]) ∧ At w0 (rdr p (bs.drop 1) :: F) w' := by
 have hw : IntKind.u8.wrap (deN (bs.take 1) : Int) = (deN (bs.take 1) : Int) := by
  have h1 := deN_lt (bs.take 1)
  have h2 : (bs.take 1).length = 1 := by rw [List.length_take]; omega
  rw [h2] at h1
  rw [IntKind.wrap_u8]
  omega
 obtain ⟨D, hD⟩ : ∃ D, D = deN (bs.take 1) := ⟨_, rfl⟩
 have HC := Lib.hid (take8_c (size := 1) H (by omega) (by omega) hn hb hw)
 rw [← hD] at HC ⊢
 clear hw hn hb hD
 go_enter Tryz.func131, Tryz.ntmps131
 go_wp2_with fail
 refine HC.out.mono ?_; rintro e w' ⟨rfl, H⟩
 go_wp2_with fail
 go_ret2
 exact ⟨rfl, H⟩
set_option maxRecDepth 10000 in
theorem ru16_c {w0 w : World} {F : List SP} {p : Nat} {bs : List (BitVec 8)} (H : At w0 (rdr p bs :: F) w) (hn : 2 ≤ bs.length) (hb : bs.length ≤ 1000000000) :
    Calls Tryz.prog 85 #[.pointer (some ⟨p, 0, none⟩)] w fun e w' => e = .returned (.tuple #[.int .u16 (deN (bs.take 2)), .int .i64 0]) ∧ At w0 (rdr p (bs.drop 2) :: F) w' := by
 have hw : IntKind.u16.wrap (deN (bs.take 2) : Int) = (deN (bs.take 2) : Int) := by
  have h1 := deN_lt (bs.take 2)
  have h2 : (bs.take 2).length = 2 := by rw [List.length_take]; omega
  rw [h2] at h1
  rw [IntKind.wrap_u16]
  omega
 obtain ⟨D, hD⟩ : ∃ D, D = deN (bs.take 2) := ⟨_, rfl⟩
 have HC := Lib.hid (take16_c (size := 2) H (by omega) (by omega) hn hb hw)
 rw [← hD] at HC ⊢
 clear hw hn hb hD
 go_enter Tryz.func85, Tryz.ntmps85
 go_wp2_with fail
 refine HC.out.mono ?_; rintro e w' ⟨rfl, H⟩
 go_wp2_with fail
 go_ret2
 exact ⟨rfl, H⟩
set_option maxRecDepth 10000 in
theorem ru32_c {w0 w : World} {F : List SP} {p : Nat} {bs : List (BitVec 8)} (H : At w0 (rdr p bs :: F) w) (hn : 4 ≤ bs.length) (hb : bs.length ≤ 1000000000) :
    Calls Tryz.prog 86 #[.pointer (some ⟨p, 0, none⟩)] w fun e w' => e = .returned (.tuple #[.int .u32 (deN (bs.take 4)), .int .i64 0]) ∧ At w0 (rdr p (bs.drop 4) :: F) w' := by
 have hw : IntKind.u32.wrap (deN (bs.take 4) : Int) = (deN (bs.take 4) : Int) := by
  have h1 := deN_lt (bs.take 4)
  have h2 : (bs.take 4).length = 4 := by rw [List.length_take]; omega
  rw [h2] at h1
  rw [IntKind.wrap_u32]
  omega
 obtain ⟨D, hD⟩ : ∃ D, D = deN (bs.take 4) := ⟨_, rfl⟩
 have HC := Lib.hid (take32_c (size := 4) H (by omega) (by omega) hn hb hw)
 rw [← hD] at HC ⊢
 clear hw hn hb hD
 go_enter Tryz.func86, Tryz.ntmps86
 go_wp2_with fail
 refine HC.out.mono ?_; rintro e w' ⟨rfl, H⟩
 go_wp2_with fail
 go_ret2
 exact ⟨rfl, H⟩
set_option maxRecDepth 10000 in
theorem ru64_c {w0 w : World} {F : List SP} {p : Nat} {bs : List (BitVec 8)} (H : At w0 (rdr p bs :: F) w) (hn : 8 ≤ bs.length) (hb : bs.length ≤ 1000000000) :
    Calls Tryz.prog 132 #[.pointer (some ⟨p, 0, none⟩)] w fun e w' => e = .returned (.tuple #[.int .u64 (deN (bs.take 8)), .int .i64 0]) ∧ At w0 (rdr p (bs.drop 8) :: F) w' := by
 have hw : IntKind.u64.wrap (deN (bs.take 8) : Int) = (deN (bs.take 8) : Int) := by
  have h1 := deN_lt (bs.take 8)
  have h2 : (bs.take 8).length = 8 := by rw [List.length_take]; omega
  rw [h2] at h1
  rw [IntKind.wrap_u64]
  omega
 obtain ⟨D, hD⟩ : ∃ D, D = deN (bs.take 8) := ⟨_, rfl⟩
 have HC := Lib.hid (take64_c (size := 8) H (by omega) (by omega) hn hb hw)
 rw [← hD] at HC ⊢
 clear hw hn hb hD
 go_enter Tryz.func132, Tryz.ntmps132
 go_wp2_with fail
 refine HC.out.mono ?_; rintro e w' ⟨rfl, H⟩
 go_wp2_with fail
 go_ret2
 exact ⟨rfl, H⟩
end Go.Proofs.YtmflbekabkainaaGreatDoor
