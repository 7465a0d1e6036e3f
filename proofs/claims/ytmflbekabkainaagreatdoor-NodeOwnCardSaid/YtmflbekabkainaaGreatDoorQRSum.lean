import Derived.Test.YtmflbekabkainaaGreatDoorQRA
import Derived.Test.YtmflbekabkainaaGreatDoorQHgC
set_option linter.unusedVariables false
set_option linter.unusedSimpArgs false
namespace Go.Proofs.YtmflbekabkainaaGreatDoor
open Go.RowKit Go.Hg
theorem iv_wrap32 (z : BitVec 32) : IntKind.u32.wrap (iv z) = iv z := by
 have := z.isLt
 rw [IntKind.wrap_u32]
 unfold iv
 omega
theorem iv_quo1024 (z : BitVec 32) : (iv z).tdiv 1024 = iv (z >>> 10) := by
 unfold iv
 rw [Int.tdiv_eq_ediv_of_nonneg (by omega), BitVec.toNat_ushiftRight, Nat.shiftRight_eq_div_pow]
 rfl
theorem iv_quo8 (z : BitVec 32) : (iv z).tdiv 8 = iv (z >>> 3) := by
 unfold iv
 rw [Int.tdiv_eq_ediv_of_nonneg (by omega), BitVec.toNat_ushiftRight, Nat.shiftRight_eq_div_pow]
 rfl
theorem iv_notsub (z : BitVec 32) : 4294967295 - iv z = iv (~~~z) := by
 have := z.isLt
 unfold iv
 rw [BitVec.toNat_not]
 omega
attribute [local go_sem] iv_add32 iv_xor32 iv_and32 iv_wrap32 iv_quo1024 iv_quo8 iv_notsub
theorem el_w32 : El Tryz.prog 36 1 4 c32 := ⟨⟨.int .u32 0, by kernel_rfl, rfl⟩, fun _ => rfl, fun x u hu => by simp [c32] at hu; subst hu; rfl⟩
theorem el_u32info : (Tryz.prog.info? 36).map (fun i => (i.zero, i.size, i.bytes)) = some (some (.int .u32 0), 1, 4) := by kernel_rfl
theorem w32_at {w0 w : World} {F : List SP} {m g off q i : Nat} {xs : List (BitVec 32)} (hm : m = xs.length) (H : At w0 F w) (k : Nat) (hk : F[k]? = some (lrow 36 1 c32 (.slice (some ⟨g, off, none⟩) m q) xs)) (hi : i < xs.length) : w.cell? ⟨g, off + i, none⟩ = some (.int .u32 (iv (gw xs i))) := by
 subst hm
 have := lrow_cell (j := 0) (v := .int .u32 (iv (gw xs i))) el_w32 H k hk (gw_get hi) rfl
 simpa using this
theorem w32_range {w0 w : World} {F : List SP} {m g off q : Nat} {xs : List (BitVec 32)} (hm : m = xs.length) (H : At w0 F w) (k : Nat) (hk : F[k]? = some (lrow 36 1 c32 (.slice (some ⟨g, off, none⟩) m q) xs)) : w.rangeAt g off (cl c32 xs) := by
 subst hm
 have H2 := H.pull k hk
 unfold lrow at H2
 exact At.rows_range (k := 0) H2
theorem cl_w32 : ∀ xs : List (BitVec 32), cl c32 xs = v32 xs
 | [] => rfl
 | x :: xs => congrArg (Value.int IntKind.u32 (iv x) :: ·) (cl_w32 xs)
theorem range_gw {w : World} {g off i : Nat} {xs : List (BitVec 32)} (hr : w.rangeAt g off (cl c32 xs)) (hi : i < xs.length) : w.cell? ⟨g, off + i, none⟩ = some (.int .u32 (iv (gw xs i))) :=
 hr i _ (by rw [cl_w32]; exact v32_get hi)
theorem be8_beN {n : Nat} (h : n ≤ 1000000000) : be8 (BitVec.ofNat 64 n * 8) = beN 8 (n * 8) := by
 have e : (BitVec.ofNat 64 n * 8).toNat = n * 8 := by
  rw [BitVec.toNat_mul, BitVec.toNat_ofNat]
  show n % 2 ^ 64 * 8 % 2 ^ 64 = n * 8
  omega
 have one : ∀ s, ((BitVec.ofNat 64 n * 8) >>> s).setWidth 8 = BitVec.ofNat 8 ((n * 8) >>> s) := fun s => by
  apply BitVec.eq_of_toNat_eq
  rw [BitVec.toNat_setWidth, BitVec.toNat_ushiftRight, e, BitVec.toNat_ofNat]
 unfold be8
 simp only [List.map_cons, List.map_nil, one]
 rfl
theorem sh_small {x k : Nat} (hx : x < 2 ^ 8) (hk : k ≤ 24) : x % 2 ^ 32 * 2 ^ k % 2 ^ 32 = x <<< k := by
 have h0 : x < 2 ^ 32 := Nat.lt_of_lt_of_le hx (Nat.pow_le_pow_right (by omega) (by omega))
 have h1 : x * 2 ^ k < 2 ^ 8 * 2 ^ k := Nat.mul_lt_mul_of_pos_right hx (Nat.two_pow_pos k)
 have h2 : (2 : Nat) ^ 8 * 2 ^ k ≤ 2 ^ 32 := by rw [← Nat.pow_add]; exact Nat.pow_le_pow_right (by omega) (by omega)
 rw [Nat.shiftLeft_eq, Nat.mod_eq_of_lt h0, Nat.mod_eq_of_lt (Nat.lt_of_lt_of_le h1 h2)]
theorem deN4 (a b c d : BitVec 8) : IntKind.u32.wrap (deN [a, b, c, d] : Int) = iv (be4 a b c d) := by
 have ha := a.isLt
 have hb := b.isLt
 have hc := c.isLt
 have hd := d.isLt
 have e : (be4 a b c d).toNat = a.toNat * 16777216 + b.toNat * 65536 + c.toNat * 256 + d.toNat := by
  unfold be4
  rw [BitVec.toNat_or, BitVec.toNat_or, BitVec.toNat_or, BitVec.toNat_shiftLeft, BitVec.toNat_shiftLeft, BitVec.toNat_shiftLeft, BitVec.toNat_setWidth, BitVec.toNat_setWidth, BitVec.toNat_setWidth, BitVec.toNat_setWidth]
  simp only [Nat.shiftLeft_eq]
  have e1 := sh_small ha (k := 24) (by omega)
  have e2 := sh_small hb (k := 16) (by omega)
  have e3 := sh_small hc (k := 8) (by omega)
  have e4 : d.toNat % 2 ^ 32 = d.toNat := Nat.mod_eq_of_lt (Nat.lt_of_lt_of_le hd (Nat.pow_le_pow_right (by omega) (by omega)))
  rw [e1, e2, e3, e4, Nat.or_assoc, Nat.or_assoc, ← Nat.shiftLeft_add_eq_or_of_lt (show d.toNat < 2 ^ 8 by omega)]
  rw [← Nat.shiftLeft_add_eq_or_of_lt (show c.toNat <<< 8 + d.toNat < 2 ^ 16 by rw [Nat.shiftLeft_eq]; omega)]
  rw [← Nat.shiftLeft_add_eq_or_of_lt (show b.toNat <<< 16 + (c.toNat <<< 8 + d.toNat) < 2 ^ 24 by rw [Nat.shiftLeft_eq, Nat.shiftLeft_eq]; omega)]
  rw [Nat.shiftLeft_eq, Nat.shiftLeft_eq, Nat.shiftLeft_eq]
  omega
 unfold iv
 rw [e, IntKind.wrap_u32]
 have e2 : deN [a, b, c, d] = a.toNat * 16777216 + b.toNat * 65536 + c.toNat * 256 + d.toNat := by
  show (((0 * 256 + a.toNat) * 256 + b.toNat) * 256 + c.toNat) * 256 + d.toNat = _
  omega
 rw [e2]
 omega
theorem wp_set32 {o : Oper} {a : Act} {K : Act → World → Prop} {Q : Exit → Act → World → Prop} {w0 w : World} {L : List SP} (x y : Operand) (ho : o.op = .store 36 x y) {g off cap i m : Nat} {ys : List (BitVec 32)} {z : BitVec 32} (hm : m = ys.length)
    (hx : a.eval x = .pointer (some ⟨g, off + i, none⟩)) (hy : a.eval y = .int .u32 (iv z)) (H : At w0 (lrow 36 1 c32 (.slice (some ⟨g, off, none⟩) m cap) ys :: L) w) (hlt : i < ys.length)
    (h : ∀ w', At w0 (lrow 36 1 c32 (.slice (some ⟨g, off, none⟩) m cap) (ys.set i z) :: L) w' → K (a.put o.dst undef) w') : OWp Tryz.prog o a w K Q := by
 subst hm
 refine wp_lstore el_w32 x y ho (i := i) (z := z) (by rw [Nat.mul_one]; exact hx) hy rfl H hlt fun w' H2 => h w' ?_
 rwa [List.length_set] at H2
theorem out4_beN (x : BitVec 32) : beN 4 x.toNat = out4 x := by
 have one : ∀ s, (x >>> s).setWidth 8 = BitVec.ofNat 8 (x.toNat >>> s) := fun s => by
  apply BitVec.eq_of_toNat_eq
  rw [BitVec.toNat_setWidth, BitVec.toNat_ushiftRight, BitVec.toNat_ofNat]
 have zero : x.setWidth 8 = BitVec.ofNat 8 (x.toNat >>> 0) := by
  apply BitVec.eq_of_toNat_eq
  rw [BitVec.toNat_setWidth, BitVec.toNat_ofNat]
  rfl
 unfold out4
 rw [one, one, one, zero]
 rfl
theorem padOf_le (n : Nat) : (padOf n).length ≤ 73 := by
 unfold padOf
 have h : ∀ m, (be8 m).length = 8 := fun _ => rfl
 rw [List.length_append, List.length_append, List.length_replicate, h, List.length_singleton]
 omega
theorem pad_facts (n c : Nat) : (c < (119 - n % 64) % 64 → ¬ (n + 1 + c) % 64 = 56) ∧ (n + 1 + (119 - n % 64) % 64) % 64 = 56 := by omega
theorem quad {S : List (BitVec 8)} {j c : Nat} (hl : 64 * j + 64 ≤ S.length) (hc : c < 16) : (S.take (64 * j + 4 * c + 4)).drop (64 * j + 4 * c) = [gb ((S.drop (64 * j)).take 64) (4 * c), gb ((S.drop (64 * j)).take 64) (4 * c + 1), gb ((S.drop (64 * j)).take 64) (4 * c + 2), gb ((S.drop (64 * j)).take 64) (4 * c + 3)] := by
 have one : ∀ k, k < 4 → S[64 * j + 4 * c + k]? = some (gb ((S.drop (64 * j)).take 64) (4 * c + k)) := fun k hk => by
  have := gb_get (bs := (S.drop (64 * j)).take 64) (i := 4 * c + k) (by rw [List.length_take, List.length_drop]; omega)
  rw [List.getElem?_take, if_pos (by omega), List.getElem?_drop] at this
  rw [← this]
  congr 1
  omega
 apply List.ext_getElem?
 intro k
 rw [List.getElem?_drop, List.getElem?_take]
 by_cases hk : k < 4
 · rw [if_pos (by omega), one k hk]
   match k, hk with
   | 0, _ => rfl
   | 1, _ => rfl
   | 2, _ => rfl
   | 3, _ => rfl
 · rw [if_neg (by omega), List.getElem?_eq_none (by simp; omega)]
set_option maxRecDepth 10000 in
set_option maxHeartbeats 8000000 in
theorem RSum_c {w0 w : World} {F : List SP} {M : List (BitVec 8)} (H : At w0 F w) (hM : M.length ≤ 1000000) : Calls Tryz.prog 127 #[.string (sB M)] w fun r w' => r = .returned (.string (sB (shaOf K0 H0 M))) ∧ At w0 F w' := by
 obtain ⟨n, hn⟩ : ∃ n, n = M.length := ⟨_, rfl⟩
 obtain ⟨q, hq⟩ : ∃ q, q = (119 - n % 64) % 64 := ⟨_, rfl⟩
 obtain ⟨S, hS⟩ : ∃ S, S = M ++ padOf n := ⟨_, rfl⟩
 obtain ⟨T, hT⟩ : ∃ T, T = S.length := ⟨_, rfl⟩
 obtain ⟨N, hNT⟩ : ∃ N, T = 64 * N := ⟨(n + 1 + q + 8) / 64, by
  have h1 := (pad_facts n q).2
  rw [← hq] at h1
  rw [hT, hS, List.length_append, ← hn]
  unfold padOf
  rw [List.length_append, List.length_append, List.length_replicate, ← hq]
  simp [be8]
  omega⟩
 have hszM : (sB M).size = n := by rw [sB_size, hn]
 have hszS : (sB S).size = T := by rw [sB_size, hT]
 have HN := Lib.hid hn
 have HQ := Lib.hid hq
 have HS := Lib.hid hS
 have HT := Lib.hid hT
 have HNN := Lib.hid hNT
 have HM := Lib.hid (show n ≤ 1000000 by rw [hn]; exact hM)
 have hR := Lib.hid (show shaOf K0 H0 M = (hN K0 H0 S N).flatMap out4 by
  unfold shaOf hOf
  rw [← hn, ← hS, ← hT, hNT, Nat.mul_div_cancel_left _ (by omega : 0 < 64)])
 clear hn hq hS hT hNT hM
 rw [hR.out]
 go_enter Tryz.func127, Tryz.ntmps127
 go_wp2_with ((with_reducible refine wpList_op rfl ?_); intro _ hK; first
  | (refine dst_is 24 rfl ?_; refine wp_sadd _ _ _ _ rfl (u := M) (v := [128]) rfl rfl (by simp; have := HM.out; have := HN.out; omega) (hK _ _ (Stop.go ?_))))
 refine Stop.un ?_
 go_wp2_with fail
 go_loopw [0] (fun s wr => ∃ c : Nat, c ≤ q ∧ s = .string (sB (M ++ ([128] ++ zs c))) ∧ At w0 F wr) (fun s _ => match s with | .string b => n + 1 + q - b.size | _ => 0)
 case atStart => exact ⟨0, by omega, rfl, H⟩
 case round =>
  clear H
  obtain ⟨c, hcq, rfl, H⟩ := hrel
  obtain ⟨X, hX⟩ : ∃ X, X = M ++ ([128] ++ zs c) := ⟨_, rfl⟩
  obtain ⟨l, hl⟩ : ∃ l, l = n + 1 + c := ⟨_, rfl⟩
  obtain ⟨r, hr⟩ : ∃ r, r = l % 64 := ⟨_, rfl⟩
  have hXl : X.length = l := by rw [hX, List.length_append, List.length_append, zs_length, ← HN.out, hl]; simp; omega
  have hsz : (sB X).size = l := by rw [sB_size, hXl]
  have hmod : (l : Int).tmod 64 = (r : Int) := by rw [Int.tmod_eq_emod_of_nonneg (by omega)]; omega
  have HXL := Lib.hid hXl
  rw [← hX]
  by_cases hc : c < q
  · as_aux_lemma =>
      have hne : ¬ (r : Int) = 56 := by have := (pad_facts n c).1 (by rw [← HQ.out]; exact hc); omega
      have hnx := Lib.hid (show X ++ [0] = M ++ ([128] ++ zs (c + 1)) by rw [hX, List.append_assoc, List.append_assoc]; unfold zs; rw [List.replicate_succ'])
      have HL := Lib.hid hl
      have HX := Lib.hid hX
      clear hX hl hr hXl
      go_wp2_with ((with_reducible refine wpList_op rfl ?_); intro _ hK; first
       | (refine dst_is 30 rfl ?_; refine wp_sadd _ _ _ _ rfl (u := X) (v := [0]) rfl rfl (by rw [HXL.out]; simp; have := HL.out; have := HM.out; have := HQ.out; omega) ?_; rw [hnx.out]; refine hK _ _ ?_))
      first
       | (refine ⟨?_, ?measure⟩; iterate 220 (try apply Exists.intro); refine ⟨?rel, rfl⟩)
       | refine ⟨?rel, ?measure⟩
      case rel => exact ⟨c + 1, by omega, rfl, H⟩
      case measure =>
       simp [sB_size, HXL.out, zs_length]
       have := HN.out
       have := HL.out
       omega
  · obtain rfl : c = q := by omega
    have hr56 : (r : Int) = 56 := by have := (pad_facts n c).2; rw [← HQ.out] at this; omega
    rw [hr56] at hmod
    obtain ⟨n8, hn8⟩ : ∃ n8, n8 = n * 8 := ⟨_, rfl⟩
    have e1 : IntKind.u64.wrap (n : Int) = (n : Int) := by rw [IntKind.wrap_u64]; have := HM.out; omega
    have e2 : (n : Int) * 8 = (n8 : Int) := by omega
    have e3 : IntKind.u64.wrap (n8 : Int) = (n8 : Int) := by rw [IntKind.wrap_u64]; have := HM.out; omega
    have hXS := Lib.hid (show X ++ beN 8 n8 = S by
     rw [HS.out, hX, hn8, ← be8_beN (by have := HM.out; omega)]
     unfold padOf
     rw [← HQ.out, List.append_assoc, List.append_assoc]
     rfl)
    have H8 := Lib.hid (show n8 < 18446744073709551616 by have := HM.out; omega)
    have HL := Lib.hid hl
    clear hX hl hr hXl hn8 hr56
    go_wp2_with fail
    refine (RText_c (n := n8) (k := 8) H H8.out (by omega)).mono ?_; rintro e w' ⟨rfl, H⟩
    go_wp2_with ((with_reducible refine wpList_op rfl ?_); intro _ hK; first
     | (refine dst_is 36 rfl ?_; refine wp_sadd _ _ _ _ rfl (u := X) (v := beN 8 n8) rfl rfl (by rw [HXL.out, beN_length]; have := HL.out; have := HM.out; have := HQ.out; omega) ?_; rw [hXS.out]; refine hK _ _ (Stop.go ?_)))
    refine Stop.un ?_
    clear hsz hmod HXL hXS e1 e2 e3
    go_wp2_with ((with_reducible refine wpList_op rfl ?_); intro _ hK; first
     | (refine dst_is 37 rfl ?_; refine wp_lnew el_w32 245 under_u32s rfl H (fun B w' H => hK _ _ ?_)))
    go_loopw [4, 5] (fun v i wr => ∃ (c : Nat) (a : Option Addr) (p : Nat), c ≤ 8 ∧ v = .slice a c p ∧ i = .int .i64 (c : Int) ∧ At w0 (lrow 36 1 c32 (.slice a c p) (H0.take c) :: F) wr) (fun _ i _ => 8 - (intOf i).toNat)
    case atStart => exact ⟨0, _, _, by omega, rfl, rfl, H⟩
    case round =>
     clear H
     obtain ⟨k, a, p, hk, rfl, rfl, H⟩ := hrel
     by_cases hk8 : k < 8
     · as_aux_lemma =>
         have hk1 : (k : Int) < 8 := by omega
         have hsn := Lib.hid (show H0.take k ++ [gw H0 k] = H0.take (k + 1) by rw [List.take_add_one, gw_get (by show k < 8; omega)]; rfl)
         have hlen := Lib.hid (show (H0.take (k + 1)).length = k + 1 by rw [List.length_take]; show min (k + 1) 8 = k + 1; omega)
         have hlen0 := Lib.hid (show (H0.take k).length = k by rw [List.length_take]; show min k 8 = k; omega)
         go_wp2_with fail
         refine (RH_c H hk8).mono ?_; rintro e w' ⟨rfl, H⟩
         go_wp2_with ((with_reducible refine wpList_op rfl ?_); intro _ hK; first
          | (refine dst_is 45 rfl ?_; refine wp_lbuild el_w32 (y := gw H0 k) 245 under_u32s _ rfl rfl rfl (by omega) (by omega) H (fun C w' H => hK _ _ ?_))
          | (refine dst_is 46 rfl ?_; refine wp_lapp_one el_w32 (xs := H0.take k) (y := gw H0 k) 245 under_u32s _ _ rfl rfl (H.pull 1 rfl) rfl 0 rfl rfl (by rw [hlen0.out]; simp [maxLen]; omega) (by rw [hlen0.out]; omega) (fun a2 p2 w' H => ?_); rw [hsn.out, hlen.out] at H ⊢; replace H := H.maskR [true, false]; refine hK _ _ ?_))
         first
          | (refine ⟨?_, ?measure⟩; iterate 220 (try apply Exists.intro); refine ⟨?rel, rfl⟩)
          | refine ⟨?rel, ?measure⟩
         case rel => exact ⟨k + 1, a2, p2, by omega, rfl, by go_num, H⟩
         case measure => simp [intOf]; omega
     · as_aux_lemma =>
         obtain rfl : k = 8 := by omega
         have hH0 := Lib.hid (show H0.take 8 = H0 from rfl)
         rw [hH0.out] at H
         have hk1 : ¬ (8 : Int) < 8 := by omega
         clear hk hk8
         go_wp2_with fail
         obtain ⟨g, off, rfl⟩ := place_of (m := 8) (xs := H0) rfl H 0 rfl (by omega)
         go_loopw [6] (fun v wr => ∃ j : Nat, j ≤ N ∧ v = .int .i64 ((64 * j : Nat) : Int) ∧ At w0 (lrow 36 1 c32 (.slice (some ⟨g, off, none⟩) 8 p) (hN K0 H0 S j) :: F) wr) (fun v _ => T - (intOf v).toNat)
         case atStart => exact ⟨0, by omega, rfl, H⟩
         case round =>
          clear H
          obtain ⟨j, hjN, rfl, H⟩ := hrel
          obtain ⟨A, hA⟩ : ∃ A, A = 64 * j := ⟨_, rfl⟩
          obtain ⟨V0, hV0⟩ : ∃ V, V = hN K0 H0 S j := ⟨_, rfl⟩
          rw [← hV0] at H
          rw [← hA]
          have hv8 := Lib.hid (show 8 = V0.length by rw [hV0, hN_length K0 rfl])
          have HV0 := Lib.hid hV0
          have HA := Lib.hid hA
          have HTA := Lib.hid (show T ≤ 1000128 by
           have h1 := HT.out
           rw [HS.out, List.length_append] at h1
           have h2 := HM.out
           have h3 := HN.out
           have h4 := padOf_le n
           omega)
          by_cases hj : j < N
          · have hlt : (A : Int) < (T : Int) := by have := HNN.out; omega
            obtain ⟨blk, hblk⟩ : ∃ b, b = (S.drop A).take 64 := ⟨_, rfl⟩
            have HB := Lib.hid hblk
            have HAT := Lib.hid (show A + 64 ≤ T by have := HNN.out; omega)
            have HJ := Lib.hid hj
            have HJN := Lib.hid hjN
            clear hA hV0 hblk hj hjN
            go_wp2_with ((with_reducible refine wpList_op rfl ?_); intro _ hK; first
             | (refine dst_is 53 rfl ?_; refine wp_lnew el_w32 245 under_u32s rfl H (fun B2 w' H => hK _ _ ?_)))
            go_loopw [7, 8] (fun v i wr => ∃ (c : Nat) (bb : Option Addr) (rr_ : Nat), c ≤ 16 ∧ v = .slice bb c rr_ ∧ i = .int .i64 (c : Int) ∧ At w0 (lrow 36 1 c32 (.slice bb c rr_) (wsOf blk c) :: lrow 36 1 c32 (.slice (some ⟨g, off, none⟩) 8 p) V0 :: F) wr) (fun _ i _ => 16 - (intOf i).toNat)
            case atStart => exact ⟨0, _, _, by omega, rfl, rfl, H⟩
            case round =>
             clear H
             obtain ⟨c, bb, rr_, hc, rfl, rfl, H⟩ := hrel
             by_cases hc16 : c < 16
             · as_aux_lemma =>
                 have hc1 : (c : Int) < 16 := by omega
                 obtain ⟨c4, hc4⟩ : ∃ x, x = 4 * c := ⟨_, rfl⟩
                 obtain ⟨p1, hp1⟩ : ∃ x, x = A + c4 := ⟨_, rfl⟩
                 obtain ⟨p4, hp4⟩ : ∃ x, x = p1 + 4 := ⟨_, rfl⟩
                 have b1 := HAT.out
                 have b2 := HTA.out
                 have m1 : (4 : Int) * (c : Int) = (c4 : Int) := by omega
                 have m2 : IntKind.i64.wrap (c4 : Int) = (c4 : Int) := by rw [IntKind.wrap_i64]; omega
                 have m3 : (A : Int) + (c4 : Int) = (p1 : Int) := by omega
                 have m4 : IntKind.i64.wrap (p1 : Int) = (p1 : Int) := by rw [IntKind.wrap_i64]; omega
                 have m5 : (p1 : Int) + 4 = (p4 : Int) := by omega
                 have m6 : IntKind.i64.wrap (p4 : Int) = (p4 : Int) := by rw [IntKind.wrap_i64]; omega
                 obtain ⟨X, hX⟩ : ∃ X, X = wnext blk (wsOf blk c) c := ⟨_, rfl⟩
                 obtain ⟨Q4, hQ4⟩ : ∃ Q4, Q4 = [gb blk (4 * c), gb blk (4 * c + 1), gb blk (4 * c + 2), gb blk (4 * c + 3)] := ⟨_, rfl⟩
                 have hquad := Lib.hid (show (S.take p4).drop p1 = Q4 by
                  have h := quad (S := S) (j := j) (c := c) (by rw [← HA.out, ← HT.out]; omega) hc16
                  rw [← HA.out, ← HB.out] at h
                  rw [hQ4, ← h, hp4, hp1, hc4])
                 have hQl := Lib.hid (show Q4.length ≤ 8 by rw [hQ4]; simp)
                 have hQn : IntKind.u32.wrap ((deN Q4 : Nat) : Int) = iv X := by
                  rw [hQ4, deN4, hX]
                  unfold wnext
                  rw [if_pos hc16]
                 have hpS := Lib.hid (show p4 ≤ S.length by rw [← HT.out]; omega)
                 have hpp := Lib.hid (show p1 ≤ p4 by omega)
                 have hsn := Lib.hid (show wsOf blk c ++ [X] = wsOf blk (c + 1) by rw [hX]; rfl)
                 clear hc4 hp1 hp4 b1 b2 hX hQ4
                 go_wp2_with ((with_reducible refine wpList_op rfl ?_); intro _ hK; first
                  | (refine dst_is 69 rfl ?_; refine wp_slice 9 _ _ _ _ rfl (run_spart under_strT (i := p1) (j := p4) hpp.out hpS.out _) ?_; rw [hquad.out]; refine hK _ _ ?_))
                 refine (RNumber_c H hQl.out).mono ?_; rintro e w' ⟨rfl, H⟩
                 go_wp2_with ((with_reducible refine wpList_op rfl ?_); intro _ hK; first
                  | (refine dst_is 72 rfl ?_; refine wp_lbuild el_w32 (y := X) 245 under_u32s _ rfl rfl rfl (by omega) (by omega) H (fun C w' H => hK _ _ ?_))
                  | (refine dst_is 73 rfl ?_; refine wp_lapp_one el_w32 (xs := wsOf blk c) (y := X) 245 under_u32s _ _ rfl rfl (H.pull 1 rfl) rfl 0 rfl rfl (by rw [wsOf_length]; simp [maxLen]; omega) (by rw [wsOf_length]; omega) (fun bb2 rr2 w' H => ?_); rw [hsn.out, wsOf_length] at H ⊢; replace H := H.maskR [true, false]; refine hK _ _ ?_))
                 first
                  | (refine ⟨?_, ?measure⟩; iterate 220 (try apply Exists.intro); refine ⟨?rel, rfl⟩)
                  | refine ⟨?rel, ?measure⟩
                 case rel => exact ⟨c + 1, bb2, rr2, by omega, rfl, by go_num, H⟩
                 case measure => simp [intOf]; omega
             · as_aux_lemma =>
                 obtain rfl : c = 16 := by omega
                 have hc1 : ¬ (16 : Int) < 16 := by omega
                 clear hc hc16
                 go_wp2_with fail
                 go_loopw [7, 9] (fun v i wr => ∃ (c : Nat) (bb : Option Addr) (rr_ : Nat), 16 ≤ c ∧ c ≤ 64 ∧ v = .slice bb c rr_ ∧ i = .int .i64 (c : Int) ∧ At w0 (lrow 36 1 c32 (.slice bb c rr_) (wsOf blk c) :: lrow 36 1 c32 (.slice (some ⟨g, off, none⟩) 8 p) V0 :: F) wr) (fun _ i _ => 64 - (intOf i).toNat)
                 case atStart => exact ⟨16, _, _, by omega, by omega, rfl, rfl, H⟩
                 case round =>
                  clear H
                  obtain ⟨c, bb, rr_, hc1, hc, rfl, rfl, H⟩ := hrel
                  by_cases hc64 : c < 64
                  · as_aux_lemma =>
                      have hc2 : (c : Int) < 64 := by omega
                      obtain ⟨d15, h15⟩ : ∃ x, x + 15 = c := ⟨c - 15, by omega⟩
                      obtain ⟨d2, h2⟩ : ∃ x, x + 2 = c := ⟨c - 2, by omega⟩
                      obtain ⟨d7, h7⟩ : ∃ x, x + 7 = c := ⟨c - 7, by omega⟩
                      obtain ⟨d16, h16⟩ : ∃ x, x + 16 = c := ⟨c - 16, by omega⟩
                      have s15 : (c : Int) - 15 = (d15 : Int) := by omega
                      have t15 : IntKind.i64.wrap (d15 : Int) = (d15 : Int) := by rw [IntKind.wrap_i64]; omega
                      have u15 : (d15 : Int) < (c : Int) := by omega
                      have l15 := Lib.hid (show d15 < (wsOf blk c).length by rw [wsOf_length]; omega)
                      have s2 : (c : Int) - 2 = (d2 : Int) := by omega
                      have t2 : IntKind.i64.wrap (d2 : Int) = (d2 : Int) := by rw [IntKind.wrap_i64]; omega
                      have u2 : (d2 : Int) < (c : Int) := by omega
                      have l2 := Lib.hid (show d2 < (wsOf blk c).length by rw [wsOf_length]; omega)
                      have s7 : (c : Int) - 7 = (d7 : Int) := by omega
                      have t7 : IntKind.i64.wrap (d7 : Int) = (d7 : Int) := by rw [IntKind.wrap_i64]; omega
                      have u7 : (d7 : Int) < (c : Int) := by omega
                      have l7 := Lib.hid (show d7 < (wsOf blk c).length by rw [wsOf_length]; omega)
                      have s16 : (c : Int) - 16 = (d16 : Int) := by omega
                      have t16 : IntKind.i64.wrap (d16 : Int) = (d16 : Int) := by rw [IntKind.wrap_i64]; omega
                      have u16 : (d16 : Int) < (c : Int) := by omega
                      have l16 := Lib.hid (show d16 < (wsOf blk c).length by rw [wsOf_length]; omega)
                      have hwl := Lib.hid (wsOf_length blk c).symm
                      obtain ⟨g2, off2, rfl⟩ := place_of hwl.out H 0 rfl (by omega)
                      obtain ⟨x15, e15⟩ : ∃ x, x = gw (wsOf blk c) d15 := ⟨_, rfl⟩
                      obtain ⟨x2, e2⟩ : ∃ x, x = gw (wsOf blk c) d2 := ⟨_, rfl⟩
                      obtain ⟨x7, e7⟩ : ∃ x, x = gw (wsOf blk c) d7 := ⟨_, rfl⟩
                      obtain ⟨x16, e16⟩ : ∃ x, x = gw (wsOf blk c) d16 := ⟨_, rfl⟩
                      have E15 := Lib.hid e15
                      have E2 := Lib.hid e2
                      have E7 := Lib.hid e7
                      have E16 := Lib.hid e16
                      have hsn := Lib.hid (show wsOf blk c ++ [whigh x2 + x7 + wlow x15 + x16] = wsOf blk (c + 1) by
                       show _ = wsOf blk c ++ [wnext blk (wsOf blk c) c]
                       unfold wnext
                       rw [if_neg (by omega), e15, e2, e7, e16, show c - 2 = d2 by omega, show c - 7 = d7 by omega, show c - 15 = d15 by omega, show c - 16 = d16 by omega])
                      clear h15 h2 h7 h16 e15 e2 e7 e16
                      go_wp2_with ((with_reducible refine wpList_op rfl ?_); intro _ hK; first
                       | (refine dst_is 82 rfl ?_; refine wp_get 36 _ rfl rfl (by kernel_rfl) (v := .int .u32 (iv x15)) (by rw [E15.out]; exact w32_at hwl.out H 0 rfl l15.out) (hK _ _ ?_))
                       | (refine dst_is 87 rfl ?_; refine wp_get 36 _ rfl rfl (by kernel_rfl) (v := .int .u32 (iv x2)) (by rw [E2.out]; exact w32_at hwl.out H 0 rfl l2.out) (hK _ _ (Stop.go ?_))))
                      refine Stop.un ?_
                      go_wp2_with fail
                      refine wpM_begin [] ((fun w => w.rangeAt g2 off2 (cl c32 (wsOf blk c)))) [(0, 2), (1, 2), (3, 2), (6, 2), (7, 2), (9, 2), (10, 2), (11, 2), (12, 2), (13, 1), (15, 2), (17, 2), (20, 2), (21, 2), (24, 2), (25, 2), (26, 2), (27, 2), (28, 1), (2, 0), (4, 0), (5, 2), (8, 2), (14, 2), (16, 0), (18, 0), (19, 2), (22, 2), (23, 2), (29, 2), (30, 0), (31, 0), (32, 0)] rfl (by kernel_rfl) (by kernel_rfl) ((w32_range hwl.out H.drew 0 rfl)) ?_
                      intro ops hOps hS
                      replace H := H.drew
                      iterate 9 refine fm hOps ?_
                      refine tm hOps hS (fun w hw => (show _ = some (Value.int .u32 (iv x7)) by rw [E7.out]; exact range_gw hw l7.out)) ?_
                      iterate 8 refine fm hOps ?_
                      refine tm hOps hS (fun w hw => (show _ = some (Value.int .u32 (iv x16)) by rw [E16.out]; exact range_gw hw l16.out)) ?_
                      refine wpM_next hOps rfl rfl ?_
                      intro K hK
                      refine wp_call _ _ _ rfl Tryz.func140 rfl (by kernel_rfl) ?_
                      simp only [List.map_toArray, List.map_cons, List.map_nil, Act.eval, Array.getD_eq_getD_getElem?, List.getElem?_toArray, List.getElem?_cons_zero, List.getElem?_cons_succ, Option.getD_some]
                      refine (RTurn17_c H).mono ?_; rintro e w' ⟨rfl, H⟩
                      have hS := (w32_range hwl.out H 0 rfl)
                      refine hK _ _ (.inr hS) ?_
                      clear hK K
                      simp only [nrm]
                      refine wpM_next hOps rfl rfl ?_
                      intro K hK
                      refine wp_call _ _ _ rfl Tryz.func140 rfl (by kernel_rfl) ?_
                      simp only [List.map_toArray, List.map_cons, List.map_nil, Act.eval, Array.getD_eq_getD_getElem?, List.getElem?_toArray, List.getElem?_cons_zero, List.getElem?_cons_succ, Option.getD_some]
                      refine (RTurn19_c H).mono ?_; rintro e w' ⟨rfl, H⟩
                      have hS := (w32_range hwl.out H 0 rfl)
                      refine hK _ _ (.inr hS) ?_
                      clear hK K
                      simp only [nrm]
                      iterate 3 refine fm hOps ?_
                      refine wpM_next hOps rfl rfl ?_
                      intro K hK
                      refine wp_call _ _ _ rfl Tryz.func140 rfl (by kernel_rfl) ?_
                      simp only [List.map_toArray, List.map_cons, List.map_nil, Act.eval, Array.getD_eq_getD_getElem?, List.getElem?_toArray, List.getElem?_cons_zero, List.getElem?_cons_succ, Option.getD_some]
                      refine (RTurn7_c H).mono ?_; rintro e w' ⟨rfl, H⟩
                      have hS := (w32_range hwl.out H 0 rfl)
                      refine hK _ _ (.inr hS) ?_
                      clear hK K
                      simp only [nrm]
                      refine wpM_next hOps rfl rfl ?_
                      intro K hK
                      refine wp_call _ _ _ rfl Tryz.func140 rfl (by kernel_rfl) ?_
                      simp only [List.map_toArray, List.map_cons, List.map_nil, Act.eval, Array.getD_eq_getD_getElem?, List.getElem?_toArray, List.getElem?_cons_zero, List.getElem?_cons_succ, Option.getD_some]
                      refine (RTurn18_c H).mono ?_; rintro e w' ⟨rfl, H⟩
                      have hS := (w32_range hwl.out H 0 rfl)
                      refine hK _ _ (.inr hS) ?_
                      clear hK K
                      simp only [nrm]
                      iterate 4 refine fm hOps ?_
                      refine wpM_next hOps rfl rfl ?_
                      intro K hK
                      refine wp_lbuild el_w32 (y := whigh x2 + x7 + wlow x15 + x16) 245 under_u32s _ rfl rfl rfl (by omega) (by omega) H (fun C w' H => ?_)
                      have hS := (w32_range hwl.out H 1 rfl)
                      refine hK _ _ (.inr hS) ?_
                      clear hK K
                      simp only [nrm]
                      refine wpM_next hOps rfl rfl ?_
                      intro K hK
                      refine wp_lapp_one_keep el_w32 (y := whigh x2 + x7 + wlow x15 + x16) 245 under_u32s _ _ rfl hwl.out rfl (H.pull 1 rfl) rfl 0 rfl rfl (by rw [wsOf_length]; simp [maxLen]; omega) (by rw [wsOf_length]; omega) (fun bb2 rr2 w' H hk2 => ?_)
                      rw [hsn.out] at H
                      replace H := H.maskR [true, false]
                      have hS := (hk2)
                      refine hK _ _ (.inr hS) ?_
                      clear hK K
                      simp only [nrm]
                      refine wpM_next hOps rfl rfl ?_
                      intro K hK
                      refine wp_run rfl ?_
                      have hS := (hS)
                      refine hK _ _ (.inr hS) ?_
                      clear hK K
                      simp only [nrm]
                      refine wpM_end ?_
                      clear hOps hS ops
                      go_wp2_with fail
                      first
                       | (refine ⟨?_, ?measure⟩; iterate 220 (try apply Exists.intro); refine ⟨?rel, rfl⟩)
                       | refine ⟨?rel, ?measure⟩
                      case rel => exact ⟨c + 1, bb2, rr2, by omega, by omega, rfl, by go_num, H⟩
                      case measure => simp [intOf]; omega
                  · as_aux_lemma =>
                      obtain rfl : c = 64 := by omega
                      have hc2 : ¬ (64 : Int) < 64 := by omega
                      clear hc hc1 hc64
                      obtain ⟨g3, off3, rfl⟩ := place_of (m := 64) (xs := wsOf blk 64) (wsOf_length blk 64).symm H 0 rfl (by omega)
                      have hw64 := Lib.hid (wsOf_length blk 64).symm
                      obtain ⟨W, hW⟩ : ∃ W, W = wsOf blk 64 := ⟨_, rfl⟩
                      rw [← hW] at H hw64
                      have HW := Lib.hid hW
                      clear hW
                      go_wp2_with ((with_reducible refine wpList_op rfl ?_); intro _ hK; first
                       | (refine dst_is 120 rfl ?_; refine wp_lnew el_w32 245 under_u32s rfl H (fun B3 w' H => hK _ _ ?_))
                       | (refine dst_is 122 rfl ?_; refine wp_lapp_all el_w32 245 under_u32s _ _ rfl rfl H rfl 1 rfl (by rw [← hv8.out]; simp [maxLen]) (by rw [← hv8.out]; simp) (fun vb vr w' H => ?_); rw [List.nil_append, ← hv8.out] at H ⊢; refine hK _ _ (Stop.go ?_)))
                      refine Stop.un ?_
                      replace H : At w0 (lrow 36 1 c32 (.slice vb 8 vr) V0 :: lrow 36 1 c32 (.slice (some ⟨g3, off3, none⟩) 64 rr_) W :: lrow 36 1 c32 (.slice (some ⟨g, off, none⟩) 8 p) V0 :: F) w' := H
                      go_wp2_with fail
                      go_loopw [12, 13] (fun v i wr => ∃ (c : Nat) (vb : Option Addr) (vr : Nat), c ≤ 64 ∧ v = .slice vb 8 vr ∧ i = .int .i64 (c : Int) ∧ At w0 (lrow 36 1 c32 (.slice vb 8 vr) (rnds K0 W V0 c) :: lrow 36 1 c32 (.slice (some ⟨g3, off3, none⟩) 64 rr_) W :: lrow 36 1 c32 (.slice (some ⟨g, off, none⟩) 8 p) V0 :: F) wr) (fun _ i _ => 64 - (intOf i).toNat)
                      case atStart => exact ⟨0, _, _, by omega, rfl, rfl, H⟩
                      case round =>
                       clear H
                       obtain ⟨c, vb, vr, hc, rfl, rfl, H⟩ := hrel
                       by_cases hc64 : c < 64
                       · as_aux_lemma =>
                           have hc2 : (c : Int) < 64 := by omega
                           obtain ⟨V, hV⟩ : ∃ V, V = rnds K0 W V0 c := ⟨_, rfl⟩
                           rw [← hV] at H
                           have hV8 := Lib.hid (show 8 = V.length by rw [hV, rnds_length K0 W hv8.out.symm])
                           obtain ⟨gv, ov, rfl⟩ := place_of hV8.out H 0 rfl (by omega)
                           obtain ⟨kc, hkc⟩ : ∃ x, x = gw K0 c := ⟨_, rfl⟩
                           obtain ⟨wc, hwc⟩ : ∃ x, x = gw W c := ⟨_, rfl⟩
                           have hnx := Lib.hid (show rnd V kc wc = rnds K0 W V0 (c + 1) by rw [hV, hkc, hwc]; rfl)
                           have HKC := Lib.hid hkc
                           have HWC := Lib.hid hwc
                           have hcW := Lib.hid (show c < W.length by rw [← hw64.out]; exact hc64)
                           have i0 := Lib.hid (show 0 < V.length by rw [← hV8.out]; omega)
                           have i1 := Lib.hid (show 1 < V.length by rw [← hV8.out]; omega)
                           have i2 := Lib.hid (show 2 < V.length by rw [← hV8.out]; omega)
                           have i3 := Lib.hid (show 3 < V.length by rw [← hV8.out]; omega)
                           have i4 := Lib.hid (show 4 < V.length by rw [← hV8.out]; omega)
                           have i5 := Lib.hid (show 5 < V.length by rw [← hV8.out]; omega)
                           have i6 := Lib.hid (show 6 < V.length by rw [← hV8.out]; omega)
                           have i7 := Lib.hid (show 7 < V.length by rw [← hV8.out]; omega)
                           obtain ⟨v0, hv0⟩ : ∃ x, x = gw V 0 := ⟨_, rfl⟩
                           have HV0 := Lib.hid hv0
                           obtain ⟨v1, hv1⟩ : ∃ x, x = gw V 1 := ⟨_, rfl⟩
                           have HV1 := Lib.hid hv1
                           obtain ⟨v2, hv2⟩ : ∃ x, x = gw V 2 := ⟨_, rfl⟩
                           have HV2 := Lib.hid hv2
                           obtain ⟨v3, hv3⟩ : ∃ x, x = gw V 3 := ⟨_, rfl⟩
                           have HV3 := Lib.hid hv3
                           obtain ⟨v4, hv4⟩ : ∃ x, x = gw V 4 := ⟨_, rfl⟩
                           have HV4 := Lib.hid hv4
                           obtain ⟨v5, hv5⟩ : ∃ x, x = gw V 5 := ⟨_, rfl⟩
                           have HV5 := Lib.hid hv5
                           obtain ⟨v6, hv6⟩ : ∃ x, x = gw V 6 := ⟨_, rfl⟩
                           have HV6 := Lib.hid hv6
                           obtain ⟨v7, hv7⟩ : ∃ x, x = gw V 7 := ⟨_, rfl⟩
                           have HV7 := Lib.hid hv7
                           clear hV hkc hwc hv0 hv1 hv2 hv3 hv4 hv5 hv6 hv7
                           go_wp2_with fail
                           refine wpM_begin [] ((At w0 (lrow 36 1 c32 (.slice (some ⟨gv, ov, none⟩) 8 vr) V :: lrow 36 1 c32 (.slice (some ⟨g3, off3, none⟩) 64 rr_) W :: lrow 36 1 c32 (.slice (some ⟨g, off, none⟩) 8 p) V0 :: F))) [(0, 2), (1, 2), (2, 1), (3, 2), (4, 2), (5, 1), (6, 2), (7, 2), (8, 2), (9, 1), (10, 2), (11, 2), (12, 2), (13, 1), (14, 2), (15, 2), (16, 0)] rfl (by kernel_rfl) (by kernel_rfl) ((H.drew)) ?_
                           intro ops hOps hS
                           replace H := H.drew
                           iterate 2 refine fm hOps ?_
                           refine tm hOps hS (fun w hw => (show _ = some (Value.int .u32 (iv v4)) by rw [HV4.out]; exact w32_at hV8.out hw 0 rfl i4.out)) ?_
                           iterate 2 refine fm hOps ?_
                           refine tm hOps hS (fun w hw => (show _ = some (Value.int .u32 (iv v5)) by rw [HV5.out]; exact w32_at hV8.out hw 0 rfl i5.out)) ?_
                           iterate 3 refine fm hOps ?_
                           refine tm hOps hS (fun w hw => (show _ = some (Value.int .u32 (iv v4)) by rw [HV4.out]; exact w32_at hV8.out hw 0 rfl i4.out)) ?_
                           iterate 3 refine fm hOps ?_
                           refine tm hOps hS (fun w hw => (show _ = some (Value.int .u32 (iv v6)) by rw [HV6.out]; exact w32_at hV8.out hw 0 rfl i6.out)) ?_
                           iterate 2 refine fm hOps ?_
                           refine wpM_next hOps rfl rfl ?_
                           intro K hK
                           refine wp_run rfl ?_
                           have hS := (hS)
                           refine hK _ _ (.inr hS) ?_
                           clear hK K
                           simp only [nrm]
                           refine wpM_end ?_
                           clear hOps hS ops
                           go_wp2_with fail
                           refine wpM_begin [] ((At w0 (lrow 36 1 c32 (.slice (some ⟨gv, ov, none⟩) 8 vr) V :: lrow 36 1 c32 (.slice (some ⟨g3, off3, none⟩) 64 rr_) W :: lrow 36 1 c32 (.slice (some ⟨g, off, none⟩) 8 p) V0 :: F))) [(0, 2), (1, 2), (2, 1), (3, 2), (4, 2), (5, 1), (7, 2), (8, 2), (9, 1), (12, 2), (13, 2), (14, 1), (18, 2), (20, 2), (23, 2), (24, 2), (25, 2), (26, 1), (6, 0), (10, 0), (11, 2), (15, 0), (16, 2), (17, 2), (19, 2), (21, 0), (22, 2), (27, 2), (28, 0)] rfl (by kernel_rfl) (by kernel_rfl) ((H.drew)) ?_
                           intro ops hOps hS
                           replace H := H.drew
                           iterate 2 refine fm hOps ?_
                           refine tm hOps hS (fun w hw => (show _ = some (Value.int .u32 (iv v7)) by rw [HV7.out]; exact w32_at hV8.out hw 0 rfl i7.out)) ?_
                           iterate 2 refine fm hOps ?_
                           refine tm hOps hS (fun w hw => (show _ = some (Value.int .u32 (iv v4)) by rw [HV4.out]; exact w32_at hV8.out hw 0 rfl i4.out)) ?_
                           iterate 2 refine fm hOps ?_
                           refine tm hOps hS (fun w hw => (show _ = some (Value.int .u32 (iv v4)) by rw [HV4.out]; exact w32_at hV8.out hw 0 rfl i4.out)) ?_
                           iterate 2 refine fm hOps ?_
                           refine tm hOps hS (fun w hw => (show _ = some (Value.int .u32 (iv v4)) by rw [HV4.out]; exact w32_at hV8.out hw 0 rfl i4.out)) ?_
                           iterate 5 refine fm hOps ?_
                           refine tm hOps hS (fun w hw => (show _ = some (Value.int .u32 (iv wc)) by rw [HWC.out]; exact w32_at hw64.out hw 1 rfl hcW.out)) ?_
                           refine wpM_next hOps rfl rfl ?_
                           intro K hK
                           refine wp_call _ _ _ rfl Tryz.func140 rfl (by kernel_rfl) ?_
                           simp only [List.map_toArray, List.map_cons, List.map_nil, Act.eval, Array.getD_eq_getD_getElem?, List.getElem?_toArray, List.getElem?_cons_zero, List.getElem?_cons_succ, Option.getD_some]
                           refine (RTurn6_c H).mono ?_; rintro e w' ⟨rfl, H⟩
                           have hS := (H)
                           refine hK _ _ (.inr hS) ?_
                           clear hK K
                           simp only [nrm]
                           refine wpM_next hOps rfl rfl ?_
                           intro K hK
                           refine wp_call _ _ _ rfl Tryz.func140 rfl (by kernel_rfl) ?_
                           simp only [List.map_toArray, List.map_cons, List.map_nil, Act.eval, Array.getD_eq_getD_getElem?, List.getElem?_toArray, List.getElem?_cons_zero, List.getElem?_cons_succ, Option.getD_some]
                           refine (RTurn11_c H).mono ?_; rintro e w' ⟨rfl, H⟩
                           have hS := (H)
                           refine hK _ _ (.inr hS) ?_
                           clear hK K
                           simp only [nrm]
                           refine fm hOps ?_
                           refine wpM_next hOps rfl rfl ?_
                           intro K hK
                           refine wp_call _ _ _ rfl Tryz.func140 rfl (by kernel_rfl) ?_
                           simp only [List.map_toArray, List.map_cons, List.map_nil, Act.eval, Array.getD_eq_getD_getElem?, List.getElem?_toArray, List.getElem?_cons_zero, List.getElem?_cons_succ, Option.getD_some]
                           refine (RTurn25_c H).mono ?_; rintro e w' ⟨rfl, H⟩
                           have hS := (H)
                           refine hK _ _ (.inr hS) ?_
                           clear hK K
                           simp only [nrm]
                           iterate 3 refine fm hOps ?_
                           refine wpM_next hOps rfl rfl ?_
                           intro K hK
                           refine wp_call _ _ _ rfl Tryz.func141 rfl (by kernel_rfl) ?_
                           simp only [List.map_toArray, List.map_cons, List.map_nil, Act.eval, Array.getD_eq_getD_getElem?, List.getElem?_toArray, List.getElem?_cons_zero, List.getElem?_cons_succ, Option.getD_some]
                           refine (RK_c H hc64).mono ?_; rintro e w' ⟨rfl, H⟩
                           rw [← HKC.out]
                           have hS := (H)
                           refine hK _ _ (.inr hS) ?_
                           clear hK K
                           simp only [nrm]
                           iterate 2 refine fm hOps ?_
                           refine wpM_next hOps rfl rfl ?_
                           intro K hK
                           refine wp_run rfl ?_
                           have hS := (hS)
                           refine hK _ _ (.inr hS) ?_
                           clear hK K
                           simp only [nrm]
                           refine wpM_end ?_
                           clear hOps hS ops
                           go_wp2_with fail
                           refine wpM_begin [] ((At w0 (lrow 36 1 c32 (.slice (some ⟨gv, ov, none⟩) 8 vr) V :: lrow 36 1 c32 (.slice (some ⟨g3, off3, none⟩) 64 rr_) W :: lrow 36 1 c32 (.slice (some ⟨g, off, none⟩) 8 p) V0 :: F))) [(0, 2), (1, 2), (2, 1), (3, 2), (4, 2), (5, 1), (6, 2), (7, 2), (8, 2), (9, 1), (10, 2), (11, 2), (12, 1), (13, 2), (14, 2), (15, 2), (16, 2), (17, 1), (18, 2), (19, 2), (20, 1), (21, 2), (22, 2), (23, 0)] rfl (by kernel_rfl) (by kernel_rfl) ((H.drew)) ?_
                           intro ops hOps hS
                           replace H := H.drew
                           iterate 2 refine fm hOps ?_
                           refine tm hOps hS (fun w hw => (show _ = some (Value.int .u32 (iv v0)) by rw [HV0.out]; exact w32_at hV8.out hw 0 rfl i0.out)) ?_
                           iterate 2 refine fm hOps ?_
                           refine tm hOps hS (fun w hw => (show _ = some (Value.int .u32 (iv v1)) by rw [HV1.out]; exact w32_at hV8.out hw 0 rfl i1.out)) ?_
                           iterate 3 refine fm hOps ?_
                           refine tm hOps hS (fun w hw => (show _ = some (Value.int .u32 (iv v0)) by rw [HV0.out]; exact w32_at hV8.out hw 0 rfl i0.out)) ?_
                           iterate 2 refine fm hOps ?_
                           refine tm hOps hS (fun w hw => (show _ = some (Value.int .u32 (iv v2)) by rw [HV2.out]; exact w32_at hV8.out hw 0 rfl i2.out)) ?_
                           iterate 4 refine fm hOps ?_
                           refine tm hOps hS (fun w hw => (show _ = some (Value.int .u32 (iv v1)) by rw [HV1.out]; exact w32_at hV8.out hw 0 rfl i1.out)) ?_
                           iterate 2 refine fm hOps ?_
                           refine tm hOps hS (fun w hw => (show _ = some (Value.int .u32 (iv v2)) by rw [HV2.out]; exact w32_at hV8.out hw 0 rfl i2.out)) ?_
                           iterate 2 refine fm hOps ?_
                           refine wpM_next hOps rfl rfl ?_
                           intro K hK
                           refine wp_run rfl ?_
                           have hS := (hS)
                           refine hK _ _ (.inr hS) ?_
                           clear hK K
                           simp only [nrm]
                           refine wpM_end ?_
                           clear hOps hS ops
                           go_wp2_with fail
                           refine wpM_begin [] ((At w0 (lrow 36 1 c32 (.slice (some ⟨gv, ov, none⟩) 8 vr) V :: lrow 36 1 c32 (.slice (some ⟨g3, off3, none⟩) 64 rr_) W :: lrow 36 1 c32 (.slice (some ⟨g, off, none⟩) 8 p) V0 :: F))) [(0, 2), (1, 2), (2, 1), (4, 2), (5, 2), (6, 1), (9, 2), (10, 2), (11, 1), (14, 2), (3, 0), (7, 0), (8, 2), (12, 0), (13, 2), (15, 2), (16, 0)] rfl (by kernel_rfl) (by kernel_rfl) ((H.drew)) ?_
                           intro ops hOps hS
                           replace H := H.drew
                           iterate 2 refine fm hOps ?_
                           refine tm hOps hS (fun w hw => (show _ = some (Value.int .u32 (iv v0)) by rw [HV0.out]; exact w32_at hV8.out hw 0 rfl i0.out)) ?_
                           iterate 2 refine fm hOps ?_
                           refine tm hOps hS (fun w hw => (show _ = some (Value.int .u32 (iv v0)) by rw [HV0.out]; exact w32_at hV8.out hw 0 rfl i0.out)) ?_
                           iterate 2 refine fm hOps ?_
                           refine tm hOps hS (fun w hw => (show _ = some (Value.int .u32 (iv v0)) by rw [HV0.out]; exact w32_at hV8.out hw 0 rfl i0.out)) ?_
                           refine fm hOps ?_
                           refine wpM_next hOps rfl rfl ?_
                           intro K hK
                           refine wp_call _ _ _ rfl Tryz.func140 rfl (by kernel_rfl) ?_
                           simp only [List.map_toArray, List.map_cons, List.map_nil, Act.eval, Array.getD_eq_getD_getElem?, List.getElem?_toArray, List.getElem?_cons_zero, List.getElem?_cons_succ, Option.getD_some]
                           refine (RTurn2_c H).mono ?_; rintro e w' ⟨rfl, H⟩
                           have hS := (H)
                           refine hK _ _ (.inr hS) ?_
                           clear hK K
                           simp only [nrm]
                           refine wpM_next hOps rfl rfl ?_
                           intro K hK
                           refine wp_call _ _ _ rfl Tryz.func140 rfl (by kernel_rfl) ?_
                           simp only [List.map_toArray, List.map_cons, List.map_nil, Act.eval, Array.getD_eq_getD_getElem?, List.getElem?_toArray, List.getElem?_cons_zero, List.getElem?_cons_succ, Option.getD_some]
                           refine (RTurn13_c H).mono ?_; rintro e w' ⟨rfl, H⟩
                           have hS := (H)
                           refine hK _ _ (.inr hS) ?_
                           clear hK K
                           simp only [nrm]
                           refine fm hOps ?_
                           refine wpM_next hOps rfl rfl ?_
                           intro K hK
                           refine wp_call _ _ _ rfl Tryz.func140 rfl (by kernel_rfl) ?_
                           simp only [List.map_toArray, List.map_cons, List.map_nil, Act.eval, Array.getD_eq_getD_getElem?, List.getElem?_toArray, List.getElem?_cons_zero, List.getElem?_cons_succ, Option.getD_some]
                           refine (RTurn22_c H).mono ?_; rintro e w' ⟨rfl, H⟩
                           have hS := (H)
                           refine hK _ _ (.inr hS) ?_
                           clear hK K
                           simp only [nrm]
                           iterate 2 refine fm hOps ?_
                           refine wpM_next hOps rfl rfl ?_
                           intro K hK
                           refine wp_run rfl ?_
                           have hS := (hS)
                           refine hK _ _ (.inr hS) ?_
                           clear hK K
                           simp only [nrm]
                           refine wpM_end ?_
                           clear hOps hS ops
                           go_wp2_with fail
                           have hnv := Lib.hid (show [(v7 + (rr v4 6 ^^^ rr v4 11 ^^^ rr v4 25) + (v4 &&& v5 ^^^ ~~~v4 &&& v6) + kc + wc) + ((rr v0 2 ^^^ rr v0 13 ^^^ rr v0 22) + (v0 &&& v1 ^^^ v0 &&& v2 ^^^ v1 &&& v2)), v0, v1, v2, v3 + (v7 + (rr v4 6 ^^^ rr v4 11 ^^^ rr v4 25) + (v4 &&& v5 ^^^ ~~~v4 &&& v6) + kc + wc), v4, v5, v6] = rnds K0 W V0 (c + 1) by rw [← hnx.out]; unfold rnd tf uf chf majf; rw [← HV0.out, ← HV1.out, ← HV2.out, ← HV3.out, ← HV4.out, ← HV5.out, ← HV6.out, ← HV7.out])
                           refine wpM_begin [] ((At w0 (lrow 36 1 c32 (.slice (some ⟨gv, ov, none⟩) 8 vr) V :: lrow 36 1 c32 (.slice (some ⟨g3, off3, none⟩) 64 rr_) W :: lrow 36 1 c32 (.slice (some ⟨g, off, none⟩) 8 p) V0 :: F))) [(0, 2), (1, 2), (2, 2), (3, 2), (4, 2), (5, 1), (6, 2), (7, 2), (8, 1), (9, 2), (10, 2), (11, 1), (12, 2), (13, 2), (14, 1), (15, 2), (16, 2), (17, 2), (18, 2), (19, 1), (20, 2), (21, 2), (22, 1), (23, 2), (24, 2), (25, 1), (26, 0), (27, 0)] rfl (by kernel_rfl) (by kernel_rfl) ((H.drew)) ?_
                           intro ops hOps hS
                           replace H := H.drew
                           iterate 5 refine fm hOps ?_
                           refine tm hOps hS (fun w hw => (show _ = some (Value.int .u32 (iv v0)) by rw [HV0.out]; exact w32_at hV8.out hw 0 rfl i0.out)) ?_
                           iterate 2 refine fm hOps ?_
                           refine tm hOps hS (fun w hw => (show _ = some (Value.int .u32 (iv v1)) by rw [HV1.out]; exact w32_at hV8.out hw 0 rfl i1.out)) ?_
                           iterate 2 refine fm hOps ?_
                           refine tm hOps hS (fun w hw => (show _ = some (Value.int .u32 (iv v2)) by rw [HV2.out]; exact w32_at hV8.out hw 0 rfl i2.out)) ?_
                           iterate 2 refine fm hOps ?_
                           refine tm hOps hS (fun w hw => (show _ = some (Value.int .u32 (iv v3)) by rw [HV3.out]; exact w32_at hV8.out hw 0 rfl i3.out)) ?_
                           iterate 4 refine fm hOps ?_
                           refine tm hOps hS (fun w hw => (show _ = some (Value.int .u32 (iv v4)) by rw [HV4.out]; exact w32_at hV8.out hw 0 rfl i4.out)) ?_
                           iterate 2 refine fm hOps ?_
                           refine tm hOps hS (fun w hw => (show _ = some (Value.int .u32 (iv v5)) by rw [HV5.out]; exact w32_at hV8.out hw 0 rfl i5.out)) ?_
                           iterate 2 refine fm hOps ?_
                           refine tm hOps hS (fun w hw => (show _ = some (Value.int .u32 (iv v6)) by rw [HV6.out]; exact w32_at hV8.out hw 0 rfl i6.out)) ?_
                           refine wpM_next hOps rfl rfl ?_
                           intro K hK
                           refine wp_listn 245 under_u32s el_u32info _ _ rfl ([(v7 + (rr v4 6 ^^^ rr v4 11 ^^^ rr v4 25) + (v4 &&& v5 ^^^ ~~~v4 &&& v6) + kc + wc) + ((rr v0 2 ^^^ rr v0 13 ^^^ rr v0 22) + (v0 &&& v1 ^^^ v0 &&& v2 ^^^ v1 &&& v2)), v0, v1, v2, v3 + (v7 + (rr v4 6 ^^^ rr v4 11 ^^^ rr v4 25) + (v4 &&& v5 ^^^ ~~~v4 &&& v6) + kc + wc), v4, v5, v6].map fun b => .int .u32 (iv b)) rfl (by decide) (by decide) (by rw [Array.toList_map]; rfl) (by intro v hv; obtain ⟨b, _, rfl⟩ := List.mem_map.1 hv; rfl) H (fun D w' H => ?_)
                           replace H := lrow_of_raw (c := c32) (xs := [(v7 + (rr v4 6 ^^^ rr v4 11 ^^^ rr v4 25) + (v4 &&& v5 ^^^ ~~~v4 &&& v6) + kc + wc) + ((rr v0 2 ^^^ rr v0 13 ^^^ rr v0 22) + (v0 &&& v1 ^^^ v0 &&& v2 ^^^ v1 &&& v2)), v0, v1, v2, v3 + (v7 + (rr v4 6 ^^^ rr v4 11 ^^^ rr v4 25) + (v4 &&& v5 ^^^ ~~~v4 &&& v6) + kc + wc), v4, v5, v6]) el_w32 (by simp) H
                           rw [hnv.out] at H
                           have hS := (H.tail)
                           refine hK _ _ (.inr hS) ?_
                           clear hK K
                           simp only [nrm]
                           refine wpM_next hOps rfl rfl ?_
                           intro K hK
                           refine wp_run rfl ?_
                           have hS := (hS)
                           refine hK _ _ (.inr hS) ?_
                           clear hK K
                           simp only [nrm]
                           refine wpM_end ?_
                           clear hOps hS ops
                           go_wp2_with fail
                           first
                            | (refine ⟨?_, ?measure⟩; iterate 220 (try apply Exists.intro); refine ⟨?rel, rfl⟩)
                            | refine ⟨?rel, ?measure⟩
                           case rel => exact ⟨c + 1, _, _, by omega, rfl, by go_num, H.maskR [true, false]⟩
                           case measure => simp [intOf]; omega
                       · as_aux_lemma =>
                           obtain rfl : c = 64 := by omega
                           have hc2 : ¬ (64 : Int) < 64 := by omega
                           clear hc hc64
                           obtain ⟨V6, hV6⟩ : ∃ V, V = rnds K0 W V0 64 := ⟨_, rfl⟩
                           rw [← hV6] at H
                           have hV8 := Lib.hid (show 8 = V6.length by rw [hV6, rnds_length K0 W hv8.out.symm])
                           obtain ⟨gv, ov, rfl⟩ := place_of hV8.out H 0 rfl (by omega)
                           have HV6 := Lib.hid hV6
                           clear hV6
                           go_wp2_with fail
                           go_loopw [18] (fun i wr => ∃ c : Nat, c ≤ 8 ∧ i = .int .i64 (c : Int) ∧ At w0 (lrow 36 1 c32 (.slice (some ⟨gv, ov, none⟩) 8 vr) V6 :: lrow 36 1 c32 (.slice (some ⟨g3, off3, none⟩) 64 rr_) W :: lrow 36 1 c32 (.slice (some ⟨g, off, none⟩) 8 p) (addw V0 V6 c) :: F) wr) (fun i _ => 8 - (intOf i).toNat)
                           case atStart => exact ⟨0, by omega, rfl, by rw [addw_zero V6 hv8.out.symm]; exact H⟩
                           case round =>
                            clear H
                            obtain ⟨c, hc, rfl, H⟩ := hrel
                            by_cases hc8 : c < 8
                            · as_aux_lemma =>
                                have hc3 : (c : Int) < 8 := by omega
                                obtain ⟨Y, hY⟩ : ∃ Y, Y = addw V0 V6 c := ⟨_, rfl⟩
                                rw [← hY] at H
                                have hY8 := Lib.hid (show 8 = Y.length by rw [hY, addw_length])
                                have iY := Lib.hid (show c < Y.length by rw [← hY8.out]; exact hc8)
                                have iV := Lib.hid (show c < V6.length by rw [← hV8.out]; exact hc8)
                                have hnx := Lib.hid (show Y.set c (gw Y c + gw V6 c) = addw V0 V6 (c + 1) by rw [hY]; exact addw_succ hc8)
                                obtain ⟨y1, hy1⟩ : ∃ x, x = gw Y c := ⟨_, rfl⟩
                                obtain ⟨z1, hz1⟩ : ∃ x, x = gw V6 c := ⟨_, rfl⟩
                                rw [← hy1, ← hz1] at hnx
                                have HY1 := Lib.hid hy1
                                have HZ1 := Lib.hid hz1
                                clear hY hy1 hz1
                                go_wp2_with fail
                                refine wpM_begin [12] ((At w0 (lrow 36 1 c32 (.slice (some ⟨gv, ov, none⟩) 8 vr) V6 :: lrow 36 1 c32 (.slice (some ⟨g3, off3, none⟩) 64 rr_) W :: lrow 36 1 c32 (.slice (some ⟨g, off, none⟩) 8 p) Y :: F))) [(0, 2), (1, 2), (2, 2), (3, 2), (4, 2), (5, 1), (6, 2), (7, 2), (8, 2), (9, 1), (10, 2), (11, 2), (12, 0)] rfl (by kernel_rfl) (by kernel_rfl) ((H.drew)) ?_
                                intro ops hOps hS
                                replace H := H.drew
                                iterate 5 refine fm hOps ?_
                                refine tm hOps hS (fun w hw => (show _ = some (Value.int .u32 (iv y1)) by rw [HY1.out]; exact w32_at hY8.out hw 2 rfl iY.out)) ?_
                                iterate 3 refine fm hOps ?_
                                refine tm hOps hS (fun w hw => (show _ = some (Value.int .u32 (iv z1)) by rw [HZ1.out]; exact w32_at hV8.out hw 0 rfl iV.out)) ?_
                                iterate 2 refine fm hOps ?_
                                refine wpM_next hOps rfl rfl ?_
                                intro K hK
                                refine wp_set32 _ _ rfl hY8.out (z := y1 + z1) rfl rfl (H.pull 2 rfl) iY.out (fun w' H => ?_)
                                rw [hnx.out] at H
                                replace H := (((H).pull 2 rfl).pull 2 rfl)
                                refine hK _ _ (.inl (by decide)) ?_
                                clear hK K
                                simp only [nrm]
                                refine wpM_end ?_
                                clear hOps hS ops
                                go_wp2_with fail
                                first
                                 | (refine ⟨?_, ?measure⟩; iterate 220 (try apply Exists.intro); refine ⟨?rel, rfl⟩)
                                 | refine ⟨?rel, ?measure⟩
                                case rel => exact ⟨c + 1, by omega, by go_num, H⟩
                                case measure => simp [intOf]; omega
                            · obtain rfl : c = 8 := by omega
                              have hc3 : ¬ (8 : Int) < 8 := by omega
                              clear hc hc8
                              have hjn := Lib.hid (show addw V0 V6 8 = Hg.hN K0 H0 S (j + 1) by
                               rw [HV6.out, HW.out, HB.out, HA.out, HV0.out]
                               rfl)
                              rw [hjn.out] at H
                              have wA : IntKind.i64.wrap ((A : Int) + 64) = (A : Int) + 64 := by rw [IntKind.wrap_i64]; have := HTA.out; have := HAT.out; omega
                              go_wp2_with fail
                              first
                               | (refine ⟨?_, ?measure⟩; iterate 220 (try apply Exists.intro); refine ⟨?rel, rfl⟩)
                               | refine ⟨?rel, ?measure⟩
                              case rel => exact ⟨j + 1, HJ.out, by congr 1; have := HA.out; omega, H.maskR [false, false]⟩
                              case measure => simp [intOf]; have := HAT.out; omega
          · as_aux_lemma =>
              obtain rfl : j = N := by omega
              have hlt : ¬ (A : Int) < (T : Int) := by have := HNN.out; omega
              clear hA hV0 hj hjN
              go_wp2_with fail
              go_loopw [19, 20] (fun s i wr => ∃ c : Nat, c ≤ 8 ∧ s = .string (sB ((V0.take c).flatMap out4)) ∧ i = .int .i64 (c : Int) ∧ At w0 (lrow 36 1 c32 (.slice (some ⟨g, off, none⟩) 8 p) V0 :: F) wr) (fun _ i _ => 8 - (intOf i).toNat)
              case atStart => exact ⟨0, by omega, rfl, rfl, H⟩
              case round =>
               clear H
               obtain ⟨c, hc, rfl, rfl, H⟩ := hrel
               by_cases hc8 : c < 8
               · as_aux_lemma =>
                   have hc3 : (c : Int) < 8 := by omega
                   have i0 := Lib.hid (show c < V0.length by rw [← hv8.out]; exact hc8)
                   obtain ⟨x, hx⟩ : ∃ x, x = gw V0 c := ⟨_, rfl⟩
                   obtain ⟨xn, hxn⟩ : ∃ n, n = x.toNat := ⟨_, rfl⟩
                   have hw1 : IntKind.u64.wrap (iv x) = (xn : Int) := by have := x.isLt; rw [IntKind.wrap_u64]; unfold iv; omega
                   have hsm := Lib.hid (show xn < 18446744073709551616 by have := x.isLt; omega)
                   obtain ⟨Z, hZ⟩ : ∃ Z, Z = (V0.take c).flatMap out4 := ⟨_, rfl⟩
                   have hnx := Lib.hid (show Z ++ beN 4 xn = (V0.take (c + 1)).flatMap out4 by
                    rw [hZ, hxn, out4_beN, List.take_add_one, gw_get i0.out, List.flatMap_append, hx]
                    simp)
                   have hZl := Lib.hid (show Z.length ≤ 1000 by
                    have one : ∀ l : List (BitVec 32), (l.flatMap out4).length = 4 * l.length := fun l => by
                     induction l with
                     | nil => rfl
                     | cons a t ih => rw [List.flatMap_cons, List.length_append, ih, List.length_cons]; show 4 + _ = _; omega
                    rw [hZ, one, List.length_take]
                    omega)
                   rw [← hZ]
                   have HXX := Lib.hid hx
                   clear hx hxn hZ
                   go_wp2_with ((with_reducible refine wpList_op rfl ?_); intro _ hK; first
                    | (refine dst_is 261 rfl ?_; refine wp_get 36 _ rfl rfl (by kernel_rfl) (v := .int .u32 (iv x)) (by rw [HXX.out]; exact w32_at hv8.out H 0 rfl i0.out) (hK _ _ ?_)))
                   refine (RText_c (n := xn) (k := 4) H hsm.out (by omega)).mono ?_; rintro e w' ⟨rfl, H⟩
                   go_wp2_with ((with_reducible refine wpList_op rfl ?_); intro _ hK; first
                    | (refine dst_is 264 rfl ?_; refine wp_sadd _ _ _ _ rfl (u := Z) (v := beN 4 xn) rfl rfl (by rw [beN_length]; have := hZl.out; omega) ?_; rw [hnx.out]; refine hK _ _ ?_))
                   first
                    | (refine ⟨?_, ?measure⟩; iterate 220 (try apply Exists.intro); refine ⟨?rel, rfl⟩)
                    | refine ⟨?rel, ?measure⟩
                   case rel => exact ⟨c + 1, by omega, rfl, by go_num, H⟩
                   case measure => simp [intOf]; omega
               · obtain rfl : c = 8 := by omega
                 have hc3 : ¬ (8 : Int) < 8 := by omega
                 have hf := Lib.hid (show V0.take 8 = V0 by rw [hv8.out, List.take_length])
                 rw [hf.out]
                 clear hc hc8
                 go_wp2_with fail
                 go_ret
                 exact ⟨by rw [HV0.out]; rfl, H.tail⟩
end Go.Proofs.YtmflbekabkainaaGreatDoor
