/-
  A box that is filled and emptied by turns keeps its order: the law answers true for every input, and its arguments read as before.
-/
import Derived.Test.YtogicnbocefkbaaLaw15
import Derived.Test.YtogicnbocefkbaaNum
import Derived.Test.YtogicnbocefkbaaBytes
import Derived.Test.YtogicnbocefkbaaBodies
import Derived.Test.YtogicnbocefkbaaFrame
namespace Go.Proofs.Ytogicnbocefkbaa
open Go.ChangeShapes Go.WideShapes Go.ChangeAt Go.RowKit Go.Hg
open Go.ChangeMaps (open_string shut_string)
set_option linter.unusedSimpArgs false
set_option linter.unusedVariables false
/-- What is wanted is what box 0 holds. -/
def RollsR (w0 : World) (m : Nat) (W : List Body) (ua : Option Addr) (uc : Nat) (w : World) : Prop :=
  ∃ L, MailOK L ∧ L.length = 1 ∧ L.getD 0 [] = W ∧ At w0 [rows 34 256 (.slice ua W.length uc) W.length (bls W), mail m L] w
def RollsC (w0 : World) (m : Nat) (X W : List Body) (L : List (List Body)) (xa : Option Addr) (xc : Nat) (ua : Option Addr) (uc : Nat) (w : World) : Prop :=
  At w0 [rows 34 256 (.slice xa X.length xc) X.length (bls X), rows 34 256 (.slice ua W.length uc) W.length (bls W), mail m L] w
theorem body_any {w0 w : World} {L : List SP} (H : At w0 L w) (s : ByteArray) (hs : s.size ≤ 9223372036854775807) :
    Calls Try.prog 12 #[.string s] w fun e w' => ∃ y : Body, y.length = 256 ∧ e = .returned (.agg (bv y)) ∧ At w0 L w' :=
  (body_c H s hs).mono fun _ _ h => ⟨_, bodyOf_length s, h.1, h.2⟩
/-- A fetch takes the first ones. -/
theorem rolls_fetch {L : List (List Body)} {W : List Body} (hM : MailOK L) (hl : L.length = 1) (hg : L.getD 0 [] = W) {p : Int} (hp : 0 ≤ p) :
    ∃ X, fetchE L 0 p = 0 ∧ fetchX L 0 p = X ∧ X = W.take X.length ∧ (X.length : Int) = min p W.length ∧ (fetchL L 0 p).length = 1 ∧ (fetchL L 0 p).getD 0 [] = W.drop X.length ∧ Full W ∧ W.length ≤ 64 := by
  have f := fetch_facts (L := L) (k := 0) (by omega) hp
  have hF := hM.getD 0
  rw [hg] at hF
  have hx : (W.take p.toNat).length = min p.toNat W.length := List.length_take
  have e1 : W.take (W.take p.toNat).length = W.take p.toNat := by
    rw [hx]
    rcases Nat.le_total p.toNat W.length with h | h
    · rw [Nat.min_eq_left h]
    · rw [Nat.min_eq_right h, List.take_of_length_le (Nat.le_refl _), List.take_of_length_le h]
  have e2 : W.drop (W.take p.toNat).length = W.drop p.toNat := by
    rw [hx]
    rcases Nat.le_total p.toNat W.length with h | h
    · rw [Nat.min_eq_left h]
    · rw [Nat.min_eq_right h, List.drop_of_length_le (Nat.le_refl _), List.drop_of_length_le h]
  refine ⟨W.take p.toNat, f.1, by rw [f.2.1, hg], e1.symm, by omega, by rw [f.2.2.1, hl], by rw [f.2.2.2, hg, e2], hF.2, hF.1⟩
set_option maxRecDepth 10000 in
set_option maxHeartbeats 4000000 in
theorem mailboxRolls_walk (a : Option Addr) (len cap : Nat) (a2 : Option Addr) (len2 cap2 : Nat) (w : World) (h1 : IntRow .u8 w a len) (h2 : IntRow .u8 w a2 len2) :
    Calls Try.prog 9 #[.slice a len cap, .slice a2 len2 cap2] w fun e w' => e = .returned (.bool true) ∧ Below w.heap.size w w' := by
  obtain ⟨hlen, b, off, hcell⟩ := h1
  obtain ⟨hlen2, b2, off2, hcell2⟩ := h2
  have H := At.start w
  have hM0 := MailOK.new 1
  go_enter Try.func9, Try.ntmps9
  go_wp2_with fail
  refine (shown_c H).mono ?_; rintro e w' ⟨rfl, H⟩
  go_wp2_with fail
  refine (new_c H _).mono ?_; rintro e w' ⟨m, rfl, H⟩
  go_wp2_with fail
  go_loopw [7, 8, 9] (fun s n i wr => ∃ (j k : Nat) (W : List Body) (ua : Option Addr) (uc : Nat), (j : Int) ≤ 40 ∧ (k : Int) ≤ 65 * j ∧ s = .slice ua W.length uc ∧ n = .int .i64 k ∧ i = .int .i64 j ∧ RollsR w m W ua uc wr) (fun _ _ i _ => 40 - (intOf i).toNat)
  case atStart => exact ⟨0, 0, [], none, 0, by omega, by omega, rfl, rfl, rfl, newL 1, hM0, by rw [length_new]; rfl, getD_new _ _, rows_start H⟩
  case round =>
    clear H hM0
    obtain ⟨j, k, W, ua, uc, hj, hk, rfl, rfl, rfl, L, hM, hl, hg, H⟩ := hrel
    by_cases hj1 : (j : Int) < len
    · by_cases hj2 : (j : Int) < len2
      · by_cases hj3 : (j : Int) < 40
        · obtain ⟨ha, x, hx, hxw⟩ := hcell j (by omega)
          obtain ⟨ha2, x2, hx2, hx2w⟩ := hcell2 j (by omega)
          subst ha ha2
          clear hcell hcell2
          obtain ⟨hxa, hxb⟩ := bounds_u8 hxw
          obtain ⟨hx2a, hx2b⟩ := bounds_u8 hx2w
          have hblt := World.block_lt_of_cell? w _ hx
          have hblt2 := World.block_lt_of_cell? w _ hx2
          have HX := Lib.hid hx
          have HX2 := Lib.hid hx2
          clear hx hx2 hxw hx2w
          obtain ⟨y, hy, hya, hyb⟩ := mod_range x 65 (by omega)
          obtain ⟨y2, hy2, hy2a, hy2b⟩ := mod_range x2 65 (by omega)
          go_wp2_with fail
          go_loopw [7, 8, 10] (fun s n i wr => ∃ (q k : Nat) (W : List Body) (ua : Option Addr) (uc : Nat), (q : Int) ≤ y ∧ (k : Int) ≤ 65 * j + q ∧ s = .slice ua W.length uc ∧ n = .int .i64 k ∧ i = .int .i64 q ∧ RollsR w m W ua uc wr) (fun _ _ i _ => y.toNat - (intOf i).toNat)
          case atStart => exact ⟨0, k, W, ua, uc, by omega, by omega, rfl, rfl, rfl, L, hM, hl, hg, H⟩
          case round =>
            clear H hM hl hg hk
            obtain ⟨q, k, W, ua, uc, hq, hk, rfl, rfl, rfl, L, hM, hl, hg, H⟩ := hrel
            have hx := (H.below.cell hblt).trans HX.out
            by_cases hlt : (q : Int) < y
            · go_wp2_with ((with_reducible refine wpList_op rfl ?_); intro _ hK; first | (refine wp_buildSlice2_sl _ _ _ rfl under_bytes info_byte rfl rfl rfl rfl H (fun B w' (H : At w [raw B _ _, _, _] w') _ => hK _ _ ?_)) | (refine wp_string_of (xs := [_, _]) _ _ _ rfl under_bytes under_uint8 under_str rfl (H.heap 0 rfl) rfl rfl (hK _ _ ?_)))
              refine (body_any (H.mask [false, true, true]) _ (by rw [strOfNums_size]; simp)).mono ?_; rintro e w' ⟨bo, hbo, rfl, H⟩
              have hi2 := Lib.hid (show (Try.prog.info? 34).map (·.size) = some (bv bo).size by rw [bv_size, hbo]; kernel_rfl)
              have hs2 := Lib.hid (show (bv zb).size = (bv bo).size by rw [bv_size, bv_size, hbo]; rfl)
              go_wp2_with ((with_reducible refine wpList_op rfl ?_); intro _ hK; first | (refine wp_alloc_sl (z := .agg (bv zb)) _ rfl info_body H (fun B w' (H : At w [raw B (bv zb) 34, _, _] w') _ => hK _ _ ?_)) | (refine wp_store_row_sl (cells := bv bo) _ _ _ rfl rfl rfl hi2.out (one_bl _) 0 H rfl hs2.out fun w' (H : At w [raw B (bv bo) 34, _, _] w') => hK _ _ ?_) | (refine wp_load_row_sl _ _ rfl rfl (H.heap 0 rfl) under_body rfl hi2.out (hK _ _ ?_)))
              by_cases hf : (W.length : Int) < 64
              · have Hp := Lib.hid (put_facts (L := L) (k := 0) (by omega) (by rw [hg]; omega) bo)
                refine (put_c (H.pull 2 rfl) hM 0 (by omega) (by omega) _ hbo).mono ?_; rintro e w' ⟨rfl, H⟩
                rw [show (0 : Int).toNat = 0 from rfl] at H ⊢
                rw [Hp.out.1]
                go_wp2_with ((with_reducible refine wpList_op rfl ?_); intro _ hK; first | (refine wp_load_row_sl _ _ rfl rfl (H.heap 1 rfl) under_body rfl hi2.out (hK _ _ ?_)) | (refine wp_buildSlice_sl (v := .agg (bv bo)) _ _ rfl under_bodies info_body (by show (bv zb).size = 256; rw [bv_size]; exact List.length_replicate) rfl (by show (bv bo).size = 256; rw [bv_size, hbo]) (by omega) (by omega) H fun C w' (H : At w [raw C (bv bo) 34, _, _, _] w') _ => hK _ _ ?_) | (refine wp_app_one _ _ rfl rfl (H.pull 3 rfl) rfl 0 hbo rfl (by omega) (fun b c w' H => hK _ _ ?_)))
                go_roundw
                case rel => exact ⟨q + 1, k + 1, W ++ [bo], _, _, by omega, by omega, by simp, by go_num, by go_num, _, hM.put _ hbo, Hp.out.2.1.trans hl, by rw [Hp.out.2.2, hg], H.mask [true, false, true]⟩
                case measure => simp [intOf]; omega
              · have Hp := Lib.hid (put_facts_full (L := L) (k := 0) (by omega) (by rw [hg]; omega) bo)
                refine (put_c (H.pull 2 rfl) hM 0 (by omega) (by omega) _ hbo).mono ?_; rintro e w' ⟨rfl, H⟩
                rw [show (0 : Int).toNat = 0 from rfl] at H ⊢
                rw [Hp.out.1]
                rw [Hp.out.2] at H
                go_wp2
                go_roundw
                case rel => exact ⟨q + 1, k + 1, W, _, _, by omega, by omega, rfl, by go_num, by go_num, _, hM, hl, hg, (H.pull 2 rfl).mask [true, true]⟩
                case measure => simp [intOf]; omega
            · have hqy : (q : Int) = y := by omega
              obtain ⟨X, e1, hX, hXt, hXl, e2, e3, hF, hW64⟩ := rolls_fetch hM hl hg (show 0 ≤ y2 by omega)
              have HE1 := Lib.hid e1
              have HXX := Lib.hid hX
              have HXT := Lib.hid hXt
              have hXw : X.length ≤ W.length := by omega
              have hFX : Full X := by rw [hXt]; exact hF.take _
              obtain ⟨p, hpX⟩ : ∃ p, p = X.length := ⟨_, rfl⟩
              clear e1 hX hXt
              have hx2 := (H.below.cell hblt2).trans HX2.out
              go_wp2_with fail
              refine (fetch_c (H.pull 1 rfl) hM 0 (by omega) (by omega) _).mono ?_; rintro e w' ⟨u, rfl, H⟩
              obtain ⟨xa, xc, rfl⟩ := H.rows_slice
              rw [show (0 : Int).toNat = 0 from rfl] at H ⊢
              rw [HXX.out] at H
              rw [HE1.out, HXX.out]
              clear hx2
              have hx2 := (H.below.cell hblt2).trans HX2.out
              have H' : RollsC w m X W (fetchL L 0 y2) xa xc ua uc w' := (H.pull 2 rfl).pull 1 rfl
              clear H
              have hM' := hM.fetch 0 y2
              by_cases hn : y2 ≤ W.length
              · have hXe : (X.length : Int) = y2 := by omega
                clear hXl
                go_wp2_with fail
                clear hXe
                go_loopw [15] (fun i wr => ∃ r : Nat, (r : Int) ≤ X.length ∧ i = .int .i64 r ∧ RollsC w m X W (fetchL L 0 y2) xa xc ua uc wr) (fun i _ => X.length - (intOf i).toNat)
                case atStart => exact ⟨0, by omega, rfl, H'⟩
                case round =>
                  clear H'
                  obtain ⟨r, hr, rfl, H⟩ := hrel
                  unfold RollsC at H
                  by_cases hlt : (r : Int) < X.length
                  · have hrW : (r : Int) < W.length := by omega
                    obtain ⟨z, hz⟩ : ∃ z, X[r]? = some z := ⟨_, List.getElem?_eq_getElem (by omega)⟩
                    have hzW : W[r]? = some z := by
                      have h5 : (W.take X.length)[r]? = some z := by rw [← HXT.out]; exact hz
                      rwa [List.getElem?_take, if_pos (by omega)] at h5
                    have hzl : z.length = 256 := hFX z (List.mem_of_getElem? hz)
                    rcases H.rows_value with ⟨_, hn0, _⟩ | ⟨ga, oa, ca, e, _⟩
                    · omega
                    rcases (H.pull 1 rfl).rows_value with ⟨_, hn0, _⟩ | ⟨gb, ob, cb, e', _⟩
                    · omega
                    cases e
                    cases e'
                    have HZ := Lib.hid hz
                    have HZW := Lib.hid hzW
                    clear hz hzW
                    go_wp2_with fail
                    refine wpL_begin 9 (RollsC w m X W (fetchL L 0 y2) (some ⟨ga, oa, none⟩) xc (some ⟨gb, ob, none⟩) uc) [(0, true), (1, true), (2, true), (3, true), (4, true), (5, true), (6, true), (7, true), (8, true)] rfl (by kernel_rfl) (by kernel_rfl) ((H.drew)) ?_
                    intro ops hOps hS
                    replace H := H.drew
                    refine wpL_take hOps hS rfl (fun _ _ _ h => h) (yl_move rfl _ rfl) ?_
                    simp only [Act.put, Act.eval, List.setIfInBounds_toArray, List.set_cons_zero, List.set_cons_succ, Array.getD_eq_getD_getElem?, List.getElem?_toArray, List.getElem?_cons_zero, List.getElem?_cons_succ, Option.getD_some]
                    refine wpL_take hOps hS rfl (fun _ _ _ h => h) (yl_move rfl _ rfl) ?_
                    simp only [Act.put, Act.eval, List.setIfInBounds_toArray, List.set_cons_zero, List.set_cons_succ, Array.getD_eq_getD_getElem?, List.getElem?_toArray, List.getElem?_cons_zero, List.getElem?_cons_succ, Option.getD_some]
                    refine wpL_take hOps hS (v := ?vOp9) rfl (fun _ _ _ h => h) (yl rfl ?yOp9) ?_
                    case yOp9 => (intro w hw; go_simp; first | done | rfl)
                    simp only [Act.put, Act.eval, List.setIfInBounds_toArray, List.set_cons_zero, List.set_cons_succ, Array.getD_eq_getD_getElem?, List.getElem?_toArray, List.getElem?_cons_zero, List.getElem?_cons_succ, Option.getD_some]
                    refine wpL_take hOps hS rfl (fun _ _ _ h => h) (yieldsIf_load_mid rfl _ _ rfl ga (oa + r * 256) rfl (bl z) _ (fun w hw => rows_at hw 0 rfl hFX HZ.out) under_body rfl (by rw [bl_length, hzl]; kernel_rfl)) ?_
                    simp only [Act.put, Act.eval, List.setIfInBounds_toArray, List.set_cons_zero, List.set_cons_succ, Array.getD_eq_getD_getElem?, List.getElem?_toArray, List.getElem?_cons_zero, List.getElem?_cons_succ, Option.getD_some]
                    refine wpL_take hOps hS rfl (fun _ _ _ h => h) (yl_move rfl _ rfl) ?_
                    simp only [Act.put, Act.eval, List.setIfInBounds_toArray, List.set_cons_zero, List.set_cons_succ, Array.getD_eq_getD_getElem?, List.getElem?_toArray, List.getElem?_cons_zero, List.getElem?_cons_succ, Option.getD_some]
                    refine wpL_take hOps hS rfl (fun _ _ _ h => h) (yl_move rfl _ rfl) ?_
                    simp only [Act.put, Act.eval, List.setIfInBounds_toArray, List.set_cons_zero, List.set_cons_succ, Array.getD_eq_getD_getElem?, List.getElem?_toArray, List.getElem?_cons_zero, List.getElem?_cons_succ, Option.getD_some]
                    refine wpL_take hOps hS (v := ?vOp19) rfl (fun _ _ _ h => h) (yl rfl ?yOp19) ?_
                    case yOp19 => (intro w hw; go_simp; first | done | rfl)
                    simp only [Act.put, Act.eval, List.setIfInBounds_toArray, List.set_cons_zero, List.set_cons_succ, Array.getD_eq_getD_getElem?, List.getElem?_toArray, List.getElem?_cons_zero, List.getElem?_cons_succ, Option.getD_some]
                    refine wpL_take hOps hS rfl (fun _ _ _ h => h) (yieldsIf_load_mid rfl _ _ rfl gb (ob + r * 256) rfl (bl z) _ (fun w hw => rows_at hw 1 rfl hF HZW.out) under_body rfl (by rw [bl_length, hzl]; kernel_rfl)) ?_
                    simp only [Act.put, Act.eval, List.setIfInBounds_toArray, List.set_cons_zero, List.set_cons_succ, Array.getD_eq_getD_getElem?, List.getElem?_toArray, List.getElem?_cons_zero, List.getElem?_cons_succ, Option.getD_some]
                    refine wpL_take hOps hS rfl (fun _ _ _ h => h) (yl rfl fun w _ => exec_neq_bytes rfl rfl rfl under_body under_uint8 size_uint8 noguard_body hzl hzl) ?_
                    simp only [Act.put, Act.eval, List.setIfInBounds_toArray, List.set_cons_zero, List.set_cons_succ, Array.getD_eq_getD_getElem?, List.getElem?_toArray, List.getElem?_cons_zero, List.getElem?_cons_succ, Option.getD_some]
                    rw [beq_self_eq_true, Bool.not_true]
                    refine wpL_end ?_
                    clear hOps hS ops
                    go_wp2
                    go_roundw
                    case rel => exact ⟨r + 1, by omega, by go_num, H⟩
                    case measure => simp [intOf]; omega
                  · go_wp2_with ((with_reducible refine wpList_op rfl ?_); intro _ hK; first | (refine wp_build0 rfl H (fun v w' H => hK _ _ ?_)) | (refine wp_slice_from _ _ rfl rfl (q := X.length) rfl H 2 hF rfl hXw (fun b c hs => hK _ _ ?_)) | (refine wp_app_src (xs := []) (ys := W.drop X.length) _ _ rfl rfl H rfl hs (by rw [List.length_drop]; simp; omega) (fun b c w' H => hK _ _ ?_)))
                    go_roundw
                    case rel => exact ⟨j + 1, k, W.drop X.length, _, _, by omega, by omega, by simp, rfl, by go_num, _, hM', e2, e3, H.mask [true, false, false, true]⟩
                    case measure => simp [intOf]; omega
              · have hXe : (X.length : Int) = W.length := by omega
                clear hXl
                go_wp2_with fail
                clear hXe
                go_loopw [15] (fun i wr => ∃ r : Nat, (r : Int) ≤ X.length ∧ i = .int .i64 r ∧ RollsC w m X W (fetchL L 0 y2) xa xc ua uc wr) (fun i _ => X.length - (intOf i).toNat)
                case atStart => exact ⟨0, by omega, rfl, H'⟩
                case round =>
                  clear H'
                  obtain ⟨r, hr, rfl, H⟩ := hrel
                  unfold RollsC at H
                  by_cases hlt : (r : Int) < X.length
                  · have hrW : (r : Int) < W.length := by omega
                    obtain ⟨z, hz⟩ : ∃ z, X[r]? = some z := ⟨_, List.getElem?_eq_getElem (by omega)⟩
                    have hzW : W[r]? = some z := by
                      have h5 : (W.take X.length)[r]? = some z := by rw [← HXT.out]; exact hz
                      rwa [List.getElem?_take, if_pos (by omega)] at h5
                    have hzl : z.length = 256 := hFX z (List.mem_of_getElem? hz)
                    rcases H.rows_value with ⟨_, hn0, _⟩ | ⟨ga, oa, ca, e, _⟩
                    · omega
                    rcases (H.pull 1 rfl).rows_value with ⟨_, hn0, _⟩ | ⟨gb, ob, cb, e', _⟩
                    · omega
                    cases e
                    cases e'
                    have HZ := Lib.hid hz
                    have HZW := Lib.hid hzW
                    clear hz hzW
                    go_wp2_with fail
                    refine wpL_begin 9 (RollsC w m X W (fetchL L 0 y2) (some ⟨ga, oa, none⟩) xc (some ⟨gb, ob, none⟩) uc) [(0, true), (1, true), (2, true), (3, true), (4, true), (5, true), (6, true), (7, true), (8, true)] rfl (by kernel_rfl) (by kernel_rfl) ((H.drew)) ?_
                    intro ops hOps hS
                    replace H := H.drew
                    refine wpL_take hOps hS rfl (fun _ _ _ h => h) (yl_move rfl _ rfl) ?_
                    simp only [Act.put, Act.eval, List.setIfInBounds_toArray, List.set_cons_zero, List.set_cons_succ, Array.getD_eq_getD_getElem?, List.getElem?_toArray, List.getElem?_cons_zero, List.getElem?_cons_succ, Option.getD_some]
                    refine wpL_take hOps hS rfl (fun _ _ _ h => h) (yl_move rfl _ rfl) ?_
                    simp only [Act.put, Act.eval, List.setIfInBounds_toArray, List.set_cons_zero, List.set_cons_succ, Array.getD_eq_getD_getElem?, List.getElem?_toArray, List.getElem?_cons_zero, List.getElem?_cons_succ, Option.getD_some]
                    refine wpL_take hOps hS (v := ?vOp34) rfl (fun _ _ _ h => h) (yl rfl ?yOp34) ?_
                    case yOp34 => (intro w hw; go_simp; first | done | rfl)
                    simp only [Act.put, Act.eval, List.setIfInBounds_toArray, List.set_cons_zero, List.set_cons_succ, Array.getD_eq_getD_getElem?, List.getElem?_toArray, List.getElem?_cons_zero, List.getElem?_cons_succ, Option.getD_some]
                    refine wpL_take hOps hS rfl (fun _ _ _ h => h) (yieldsIf_load_mid rfl _ _ rfl ga (oa + r * 256) rfl (bl z) _ (fun w hw => rows_at hw 0 rfl hFX HZ.out) under_body rfl (by rw [bl_length, hzl]; kernel_rfl)) ?_
                    simp only [Act.put, Act.eval, List.setIfInBounds_toArray, List.set_cons_zero, List.set_cons_succ, Array.getD_eq_getD_getElem?, List.getElem?_toArray, List.getElem?_cons_zero, List.getElem?_cons_succ, Option.getD_some]
                    refine wpL_take hOps hS rfl (fun _ _ _ h => h) (yl_move rfl _ rfl) ?_
                    simp only [Act.put, Act.eval, List.setIfInBounds_toArray, List.set_cons_zero, List.set_cons_succ, Array.getD_eq_getD_getElem?, List.getElem?_toArray, List.getElem?_cons_zero, List.getElem?_cons_succ, Option.getD_some]
                    refine wpL_take hOps hS rfl (fun _ _ _ h => h) (yl_move rfl _ rfl) ?_
                    simp only [Act.put, Act.eval, List.setIfInBounds_toArray, List.set_cons_zero, List.set_cons_succ, Array.getD_eq_getD_getElem?, List.getElem?_toArray, List.getElem?_cons_zero, List.getElem?_cons_succ, Option.getD_some]
                    refine wpL_take hOps hS (v := ?vOp44) rfl (fun _ _ _ h => h) (yl rfl ?yOp44) ?_
                    case yOp44 => (intro w hw; go_simp; first | done | rfl)
                    simp only [Act.put, Act.eval, List.setIfInBounds_toArray, List.set_cons_zero, List.set_cons_succ, Array.getD_eq_getD_getElem?, List.getElem?_toArray, List.getElem?_cons_zero, List.getElem?_cons_succ, Option.getD_some]
                    refine wpL_take hOps hS rfl (fun _ _ _ h => h) (yieldsIf_load_mid rfl _ _ rfl gb (ob + r * 256) rfl (bl z) _ (fun w hw => rows_at hw 1 rfl hF HZW.out) under_body rfl (by rw [bl_length, hzl]; kernel_rfl)) ?_
                    simp only [Act.put, Act.eval, List.setIfInBounds_toArray, List.set_cons_zero, List.set_cons_succ, Array.getD_eq_getD_getElem?, List.getElem?_toArray, List.getElem?_cons_zero, List.getElem?_cons_succ, Option.getD_some]
                    refine wpL_take hOps hS rfl (fun _ _ _ h => h) (yl rfl fun w _ => exec_neq_bytes rfl rfl rfl under_body under_uint8 size_uint8 noguard_body hzl hzl) ?_
                    simp only [Act.put, Act.eval, List.setIfInBounds_toArray, List.set_cons_zero, List.set_cons_succ, Array.getD_eq_getD_getElem?, List.getElem?_toArray, List.getElem?_cons_zero, List.getElem?_cons_succ, Option.getD_some]
                    rw [beq_self_eq_true, Bool.not_true]
                    refine wpL_end ?_
                    clear hOps hS ops
                    go_wp2
                    go_roundw
                    case rel => exact ⟨r + 1, by omega, by go_num, H⟩
                    case measure => simp [intOf]; omega
                  · go_wp2_with ((with_reducible refine wpList_op rfl ?_); intro _ hK; first | (refine wp_build0 rfl H (fun v w' H => hK _ _ ?_)) | (refine wp_slice_from _ _ rfl rfl (q := X.length) rfl H 2 hF rfl hXw (fun b c hs => hK _ _ ?_)) | (refine wp_app_src (xs := []) (ys := W.drop X.length) _ _ rfl rfl H rfl hs (by rw [List.length_drop]; simp; omega) (fun b c w' H => hK _ _ ?_)))
                    go_roundw
                    case rel => exact ⟨j + 1, k, W.drop X.length, _, _, by omega, by omega, by simp, rfl, by go_num, _, hM', e2, e3, H.mask [true, false, false, true]⟩
                    case measure => simp [intOf]; omega
        · go_wp2_with fail
          refine (len_c (H.pull 1 rfl) 0 (by omega) (by omega)).mono ?_; rintro e w' ⟨rfl, rfl⟩
          rw [show (0 : Int).toNat = 0 from rfl, show lenM L 0 = W.length by unfold lenM; rw [hg]]
          go_wp2
          go_ret
          exact ⟨rfl, H.below⟩
      · go_wp2_with fail
        refine (len_c (H.pull 1 rfl) 0 (by omega) (by omega)).mono ?_; rintro e w' ⟨rfl, rfl⟩
        rw [show (0 : Int).toNat = 0 from rfl, show lenM L 0 = W.length by unfold lenM; rw [hg]]
        go_wp2
        go_ret
        exact ⟨rfl, H.below⟩
    · go_wp2_with fail
      refine (len_c (H.pull 1 rfl) 0 (by omega) (by omega)).mono ?_; rintro e w' ⟨rfl, rfl⟩
      rw [show (0 : Int).toNat = 0 from rfl, show lenM L 0 = W.length by unfold lenM; rw [hg]]
      go_wp2
      go_ret
      exact ⟨rfl, H.below⟩
theorem mailboxRolls_own : ownKnob Try.prog.godebug = none := by kernel_rfl
theorem mailboxRolls_laid : laidOutB Try.prog = true := by kernel_rfl
set_option maxRecDepth 100000 in
theorem mailboxRolls_lifted (os : Os) (started : os.Started) (H : Type) (enc : TypeId × Value → H) :
    ReturnsInHanded {} Try.checked os 9 .any (Rows.mailboxRollsSpec.pre6 enc Try.prog Try.f9 Rows.mailboxRollsRow.domain false) (Rows.mailboxRollsSpec.post enc Try.prog Try.f9 false true false false) := by
  refine returnsInHanded_of_change (C := Try.checked) mailboxRolls_own started (by kernel_rfl) Try.func9
    (ChangeSpec.witness6 (enc := enc) (C := Try.checked) false ⟨#[], #[.slice none 0 0, .slice none 0 0], []⟩ 8 (by kernel_rfl) (by kernel_rfl) (by kernel_rfl) (by kernel_rfl)) ?_
  intro W base args ds gs before hval0 hW hcnd _
  have hval : ∀ (j : Nat) t v, Try.f9.params[j]? = some t → args[j]? = some v → Value.okWide Try.prog W .any base t v := hval0
  have hW' := hW
  obtain ⟨p, q, hA0, hV, rfl, hfz, hnd⟩ := hW
  have hA : DataW.TrodAll enc Try.prog W 0 (fun _ => true) true Try.f9.params.toList args.toList ds p := hA0
  rw [Try.params9] at hA hval
  obtain ⟨v0, vs0, d0, ds0, p0, q0, hargs, rfl, rfl, h0, r0⟩ := trodAll_cons hA
  obtain ⟨v1, vs1, d1, ds1, p1, q1, rfl, rfl, rfl, h1, r1⟩ := trodAll_cons r0
  obtain ⟨rfl, rfl, rfl⟩ := trodAll_nil r1
  obtain rfl : args = #[v0, v1] := by cases args; simp_all
  obtain ⟨rfl, rfl⟩ := trodVars_none hV
  have k0 := h0
  have lt0 : ∀ x ∈ p0, x.block < W.heap.size := by obtain ⟨m, hm⟩ := k0; exact DataW.trod_lt m _ _ _ hm
  have k1 := h1
  have lt1 : ∀ x ∈ p1, x.block < W.heap.size := by obtain ⟨m, hm⟩ := k1; exact DataW.trod_lt m _ _ _ hm
  obtain ⟨a0, len0, cap0, rfl⟩ := okWide_slice Try.underlying39 (hval 0 39 v0 rfl rfl)
  have f0 : IntRow .u8 W a0 len0 := by
    obtain ⟨fuel, hf⟩ := h0
    rcases open_ints Try.underlying39 Try.underlying5 (by kernel_rfl) hf with ⟨hcs, _⟩ | ⟨x, l, c, zs, hcs, _, hl, hm, hz, _, hcell, hwz⟩
    · simp [Value.cells] at hcs
      obtain ⟨rfl, rfl, rfl⟩ := hcs
      exact intRow_of (cap := 0) (zs := []) (.inl ⟨rfl, rfl⟩)
    · simp [Value.cells] at hcs
      obtain ⟨rfl, rfl, rfl⟩ := hcs
      exact intRow_of (.inr ⟨_, rfl, hl, hm, by simpa using hz, hcell, hwz⟩)
  obtain ⟨a1, len1, cap1, rfl⟩ := okWide_slice Try.underlying39 (hval 1 39 v1 rfl rfl)
  have f1 : IntRow .u8 W a1 len1 := by
    obtain ⟨fuel, hf⟩ := h1
    rcases open_ints Try.underlying39 Try.underlying5 (by kernel_rfl) hf with ⟨hcs, _⟩ | ⟨x, l, c, zs, hcs, _, hl, hm, hz, _, hcell, hwz⟩
    · simp [Value.cells] at hcs
      obtain ⟨rfl, rfl, rfl⟩ := hcs
      exact intRow_of (cap := 0) (zs := []) (.inl ⟨rfl, rfl⟩)
    · simp [Value.cells] at hcs
      obtain ⟨rfl, rfl, rfl⟩ := hcs
      exact intRow_of (.inr ⟨_, rfl, hl, hm, by simpa using hz, hcell, hwz⟩)
  clear hA0 hval0
  refine (mailboxRolls_walk a0 len0 cap0 a1 len1 cap1 W f0 f1).mono fun e W' ⟨he, bel⟩ => ?_
  subst he
  exact ⟨_, rfl, _, _, _, [], _, [], hW', trodAll_mk1 (shut_bool Try.underlying4 _), (trodAll_cons_mk (Below.trod mailboxRolls_laid (by kernel_rfl) (of_decide_eq_true (by kernel_rfl)) k0 bel lt0) (trodAll_cons_mk (Below.trod mailboxRolls_laid (by kernel_rfl) (of_decide_eq_true (by kernel_rfl)) k1 bel lt1) trodAll_mk0)), rfl, bel.frame _, fun h => by cases h⟩
theorem mailboxRolls_holds : Rows.MailboxRollsSaid :=
  OpenClaim.holds_of_wide 9 Try.f9 rfl rfl rfl rfl rfl rfl rfl ⟨rfl, rfl, rfl, rfl, rfl⟩ rfl rfl rfl rfl rfl (by kernel_rfl) Try.func9 (by kernel_rfl)
    (of_decide_eq_true (by kernel_rfl)) (by unfold Func.isWrapper; first | (rw [if_pos (by decide +kernel)]; kernel_rfl) | (rw [if_neg (by decide +kernel)]; exact ⟨rfl, rfl⟩))
    (fun os started H enc _ => mailboxRolls_lifted os started H enc)
#print axioms mailboxRolls_holds
end Go.Proofs.Ytogicnbocefkbaa
