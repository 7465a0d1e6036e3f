import Derived.Test.YtmflbekabkainaaGreatDoorQRCha
import Derived.Test.YtmflbekabkainaaGreatDoorQRMac
set_option linter.unusedVariables false
set_option linter.unusedSimpArgs false
namespace Go.Proofs.YtmflbekabkainaaGreatDoor
open Go.RowKit Go.Hg
theorem iv_and8 (a b : BitVec 8) : bits .and .u8 (iv a) (iv b) = iv (a &&& b) := by
 have e : bits .and .u8 (iv a) (iv b) = IntKind.u8.wrap (iv (BitVec.ofInt 8 (iv a) &&& BitVec.ofInt 8 (iv b))) := rfl
 rw [e, ofInt_iv, ofInt_iv, wrap8]
 have := iv8_le (a &&& b)
 have := iv_nonneg (a &&& b)
 omega
theorem iv_not8 (z : BitVec 8) : IntKind.u8.wrap (255 - iv z) = iv (~~~z) := by
 have := z.isLt
 rw [wrap8]
 unfold iv
 rw [BitVec.toNat_not]
 omega
theorem xor_sum (x y : BitVec 8) : (x &&& ~~~y) + (y &&& ~~~x) = x ^^^ y := by
 have h : (x &&& ~~~y) &&& (y &&& ~~~x) = 0#8 := by
  ext i hi
  simp only [BitVec.getElem_and, BitVec.getElem_not, BitVec.getElem_zero]
  cases x[i] <;> cases y[i] <;> rfl
 rw [BitVec.add_eq_or_of_and_eq_zero _ _ h]
 ext i hi
 simp only [BitVec.getElem_and, BitVec.getElem_not, BitVec.getElem_or, BitVec.getElem_xor]
 cases x[i] <;> cases y[i] <;> rfl
theorem iv_xorsum (x y : BitVec 8) : IntKind.u8.wrap (iv (x &&& ~~~y) + iv (y &&& ~~~x)) = iv (x ^^^ y) := by
 have e : IntKind.u8.wrap (iv (x &&& ~~~y) + iv (y &&& ~~~x)) = iv ((x &&& ~~~y) + (y &&& ~~~x)) := by
  rw [wrap8]
  unfold iv
  rw [BitVec.toNat_add]
  omega
 rw [e, xor_sum]
theorem xor_step {a b : List (BitVec 8)} {i : Nat} (hl : a.length = b.length) (hi : i < a.length) {x y : BitVec 8} (hx : a[i]? = some x) (hy : b[i]? = some y) :
    ((xorB a b).take i ++ a.drop i).set i (x ^^^ y) = (xorB a b).take (i + 1) ++ a.drop (i + 1) := by
 have hxl : (xorB a b).length = a.length := by rw [xorB_length, hl, Nat.min_self]
 have hg : (xorB a b)[i]? = some (x ^^^ y) := by
  unfold xorB
  rw [List.getElem?_zipWith, hx, hy]
 have hd : a.drop i = x :: a.drop (i + 1) := by
  rw [List.drop_eq_getElem_cons hi]
  congr 1
  exact Option.some.inj ((List.getElem?_eq_getElem hi).symm.trans hx)
 rw [hd, List.set_append_right _ _ (by rw [List.length_take]; omega), List.length_take, hxl, Nat.min_eq_left (Nat.le_of_lt hi), Nat.sub_self, List.set_cons_zero, List.take_add_one, hg, List.append_assoc]
 rfl
theorem v8r_set {X : List (BitVec 8)} {r : List Value} {c : Nat} {z : BitVec 8} (hc : c < X.length) : (v8 X ++ r).toArray.setIfInBounds c (.int .u8 (iv z)) = (v8 (X.set c z) ++ r).toArray := by
 apply Array.ext'
 rw [Array.toList_setIfInBounds]
 show (v8 X ++ r).set c _ = _
 rw [List.set_append_left _ _ (by rw [v8_length]; exact hc), v8_set]
attribute [local go_sem] iv_and8 iv_not8 iv_xorsum
set_option maxRecDepth 10000 in
set_option maxHeartbeats 1000000 in
theorem RXor_c {w0 w : World} {F : List SP} {a b : List (BitVec 8)} (H : At w0 F w) (hl : a.length = b.length) (hs : a.length ≤ 100000) : Calls Tryz.prog 79 #[.string (sB a), .string (sB b)] w fun r w' => r = .returned (.string (sB (xorB a b))) ∧ At w0 F w' := by
 obtain ⟨n, hn⟩ : ∃ n, n = a.length := ⟨_, rfl⟩
 have hsz : (sB a).size = n := by rw [sB_size, hn]
 have hxl := Lib.hid (show (xorB a b).length = n by rw [xorB_length, ← hl, Nat.min_self, hn])
 have HN := Lib.hid hn
 have HL := Lib.hid hl
 have HS := Lib.hid (show n ≤ 100000 by omega)
 clear hn hl hs
 go_enter Tryz.func79, Tryz.ntmps79
 go_wp2_with ((with_reducible refine wpList_op rfl ?_); intro _ hK; (refine dst_is 10 rfl ?_; refine wp_tobytes_fr _ _ _ rfl under_strT under_bytesT under_u8T rfl H (fun B cap fr r w' hcap hfr H => ?_); rw [← HN.out] at hcap ⊢; refine hK _ _ (Stop.go ?_)))
 have HC := Lib.hid hcap
 have HFR := Lib.hid hfr
 clear hcap hfr
 refine Stop.un ?_
 go_wp2_with fail
 go_loopw [6] (fun i wr => ∃ c : Nat, c ≤ n ∧ i = .int .i64 (c : Int) ∧ At w0 (one B (.cells (v8 ((xorB a b).take c ++ a.drop c) ++ r).toArray 5 fr) :: F) wr) (fun i _ => n - (intOf i).toNat)
 case atStart => exact ⟨0, by omega, rfl, H⟩
 case round =>
  clear H
  obtain ⟨c, hcn, rfl, H⟩ := hrel
  obtain ⟨X, hX⟩ : ∃ X, X = (xorB a b).take c ++ a.drop c := ⟨_, rfl⟩
  rw [← hX] at H
  have hXl := Lib.hid (show X.length = n by rw [hX, List.length_append, List.length_take, List.length_drop, hxl.out, ← HN.out]; omega)
  by_cases hc : c < n
  · have hlt : (c : Int) < (n : Int) := by omega
    have ew : IntKind.i64.wrap ((c : Int) + 1) = (c : Int) + 1 := by rw [IntKind.wrap_i64]; have := HS.out; omega
    obtain ⟨x, hx⟩ : ∃ x, a[c]? = some x := ⟨_, List.getElem?_eq_getElem (by rw [← HN.out]; exact hc)⟩
    obtain ⟨y, hy⟩ : ∃ y, b[c]? = some y := ⟨_, List.getElem?_eq_getElem (by rw [← HL.out, ← HN.out]; exact hc)⟩
    have hset := Lib.hid (show (v8 X ++ r).toArray.setIfInBounds c (.int .u8 (iv (x ^^^ y))) = (v8 ((xorB a b).take (c + 1) ++ a.drop (c + 1)) ++ r).toArray by
     rw [v8r_set (by rw [hXl.out]; exact hc), hX, xor_step HL.out (by rw [← HN.out]; exact hc) hx hy])
    have HX := Lib.hid hx
    have HY := Lib.hid hy
    have hca := Lib.hid (show c < (v8 X ++ r).toArray.size by rw [List.size_toArray, List.length_append, v8_length, hXl.out]; omega)
    have hcf := Lib.hid (show c < fr.1 by have := HFR.out; rw [List.length_append, v8_length, ← HN.out] at this; omega)
    clear hx hy hX
    go_wp2_with ((with_reducible refine wpList_op rfl ?_); intro _ hK; first
     | (refine dst_is 19 rfl ?_; refine wp_run (exec_sidx rfl under_strT rfl rfl HX.out _) (hK _ _ ?_))
     | (refine dst_is 22 rfl ?_; refine wp_run (exec_sidx rfl under_strT rfl rfl HY.out _) (hK _ _ ?_))
     | (refine sto_is 34 rfl ?_; refine wp_store_fr 5 _ _ rfl (b := B) (off := c) (v := .int .u8 (iv (x ^^^ y))) rfl rfl (by kernel_rfl) rfl H hca.out hcf.out (fun w' H => ?_); rw [hset.out] at H; refine hK _ _ ?_))
    first
     | (refine ⟨?_, ?measure⟩; iterate 220 (try apply Exists.intro); refine ⟨?rel, rfl⟩)
     | refine ⟨?rel, ?measure⟩
    case rel => exact ⟨c + 1, by omega, by go_num, H⟩
    case measure => simp [intOf]; omega
  · obtain rfl : c = n := by omega
    have hlt : ¬ (c : Int) < (c : Int) := by omega
    have hf := Lib.hid (show X = xorB a b by rw [hX, ← hxl.out, List.take_length, List.drop_of_length_le (by rw [hxl.out, HN.out]; exact Nat.le_refl _), List.append_nil])
    rw [hf.out] at H
    have hsee := Lib.hid (show SeeB w0 (one B (.cells (v8 (xorB a b) ++ r).toArray 5 fr) :: F) (.slice (some ⟨B, 0, none⟩) c cap) (xorB a b) by
     have h := see_one (w0 := w0) (F := one B (.cells (v8 (xorB a b) ++ r).toArray 5 fr) :: F) (c := c8) (size := 1) (xs := xorB a b) (cap := cap) (off := 0) 0 rfl (by rw [hxl.out]; exact HC.out) (by rw [cl_c8, List.drop_zero, List.take_left])
     rwa [hxl.out] at h)
    clear hX hcn hc hXl
    go_wp2_with ((with_reducible refine wpList_op rfl ?_); intro _ hK; (refine dst_is 36 rfl ?_; refine wp_run (exec_str_of (bs := xorB a b) rfl under_bytesT under_u8T under_strT rfl H hsee.out) (hK _ _ ?_)))
    go_ret
    exact ⟨rfl, H.tail⟩
set_option maxRecDepth 10000 in
set_option maxHeartbeats 1000000 in
theorem RHead_c {w0 w : World} {F : List SP} {key e n : List (BitVec 8)} (H : At w0 F w) (hk : key.length ≤ 64) (he : e.length ≤ 1000) (hn : n.length ≤ 1000) :
    Calls Tryz.prog 78 #[.string (sB key), .string (sB e), .string (sB n)] w fun r w' => r = .returned (.string (sB (streamOf (deriveOf key [[104, 101, 97, 100], e, n]) (zs 12) 384))) ∧ At w0 F w' := by
 have HK := Lib.hid hk
 have HE := Lib.hid he
 have HN := Lib.hid hn
 obtain ⟨D, hD⟩ : ∃ D, D = deriveOf key [[104, 101, 97, 100], e, n] := ⟨_, rfl⟩
 have HDl := Lib.hid (show D.length = 32 by rw [hD, deriveOf_length])
 rw [← hD]
 have HD := Lib.hid hD
 clear hk he hn hD
 go_enter Tryz.func78, Tryz.ntmps78
 go_wp2_with fail
 refine (RD11_c (label := [104, 101, 97, 100]) (e := e) (n := n) H HK.out (by simp) HE.out HN.out).mono ?_; rintro e' w' ⟨rfl, H⟩
 rw [← HD.out]
 go_wp2_with fail
 refine (RNoughts_c (n := 12) H (by omega)).mono ?_; rintro e' w' ⟨rfl, H⟩
 go_wp2_with fail
 refine (RStream_c (n := 384) H HDl.out (zs_length 12) (by omega)).mono ?_; rintro e' w' ⟨rfl, H⟩
 go_wp2_with fail
 go_ret
 exact ⟨rfl, H⟩
set_option maxRecDepth 10000 in
set_option maxHeartbeats 1000000 in
theorem RBody_c {w0 w : World} {F : List SP} {key e n : List (BitVec 8)} (H : At w0 F w) (hk : key.length ≤ 64) (he : e.length ≤ 1000) (hn : n.length ≤ 1000) :
    Calls Tryz.prog 82 #[.string (sB key), .string (sB e), .string (sB n)] w fun r w' => r = .returned (.string (sB (streamOf (deriveOf key [[98, 111, 100, 121], e, n]) (zs 12) 256))) ∧ At w0 F w' := by
 have HK := Lib.hid hk
 have HE := Lib.hid he
 have HN := Lib.hid hn
 obtain ⟨D, hD⟩ : ∃ D, D = deriveOf key [[98, 111, 100, 121], e, n] := ⟨_, rfl⟩
 have HDl := Lib.hid (show D.length = 32 by rw [hD, deriveOf_length])
 rw [← hD]
 have HD := Lib.hid hD
 clear hk he hn hD
 go_enter Tryz.func82, Tryz.ntmps82
 go_wp2_with fail
 refine (RD11_c (label := [98, 111, 100, 121]) (e := e) (n := n) H HK.out (by simp) HE.out HN.out).mono ?_; rintro e' w' ⟨rfl, H⟩
 rw [← HD.out]
 go_wp2_with fail
 refine (RNoughts_c (n := 12) H (by omega)).mono ?_; rintro e' w' ⟨rfl, H⟩
 go_wp2_with fail
 refine (RStream_c (n := 256) H HDl.out (zs_length 12) (by omega)).mono ?_; rintro e' w' ⟨rfl, H⟩
 go_wp2_with fail
 go_ret
 exact ⟨rfl, H⟩
end Go.Proofs.YtmflbekabkainaaGreatDoor
