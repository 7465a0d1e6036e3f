/-
  What is fetched in two portions is fetched in one: the law answers true for every input, and its arguments read as before.
-/
import Derived.Test.YtogicnbocefkbaaLaw15
import Derived.Test.YtogicnbocefkbaaNum
import Derived.Test.YtogicnbocefkbaaSteps
import Derived.Test.YtogicnbocefkbaaPair
import Derived.Test.YtogicnbocefkbaaBodies
namespace Go.Proofs.Ytogicnbocefkbaa
open Go.ChangeShapes Go.WideShapes Go.ChangeAt Go.RowKit Go.Hg
open Go.ChangeMaps (open_string shut_string)
set_option linter.unusedSimpArgs false
set_option linter.unusedVariables false
/-- Both boxes hold the same, so many. -/
def PartsR (w0 : World) (m : Nat) (j : Nat) (w : World) : Prop := ∃ L ts, MailOK L ∧ L.length = 2 ∧ L.getD 0 [] = ts ∧ L.getD 1 [] = ts ∧ ts.length = j ∧ At w0 [mail m L] w
theorem parts_put {L : List (List Body)} {ts : List Body} {j : Nat} (hl : L.length = 2) (h0 : L.getD 0 [] = ts) (h1 : L.getD 1 [] = ts) (hj : ts.length = j) (hj2 : j < 60) (b : Body) :
    putE L 0 = 0 ∧ putE (putL L 0 b) 1 = 0 ∧ (putL (putL L 0 b) 1 b).length = 2 ∧ (putL (putL L 0 b) 1 b).getD 0 [] = ts ++ [b] ∧ (putL (putL L 0 b) 1 b).getD 1 [] = ts ++ [b] := by
  have p0 := put_facts (L := L) (k := 0) (by omega) (by rw [h0]; omega) b
  have e1 : (putL L 0 b).getD 1 [] = ts := by rw [put_other (by omega), h1]
  have p1 := put_facts (L := putL L 0 b) (k := 1) (by rw [p0.2.1]; omega) (by rw [e1]; omega) b
  refine ⟨p0.1, p1.1, by rw [p1.2.1, p0.2.1, hl], ?_, by rw [p1.2.2, e1]⟩
  rw [put_other (by omega), p0.2.2, h0]
/-- The three fetches. -/
theorem parts_fetch {L : List (List Body)} {ts : List Body} (hM : MailOK L) (hl : L.length = 2) (h0 : L.getD 0 [] = ts) (h1 : L.getD 1 [] = ts) {n m : Int} (hn : 0 ≤ n) (hm : 0 ≤ m) :
    ∃ A B L1 L2 L3, fetchE L 0 n = 0 ∧ fetchX L 0 n = A ∧ fetchL L 0 n = L1 ∧ fetchE L1 0 m = 0 ∧ fetchX L1 0 m = B ∧ fetchL L1 0 m = L2 ∧ fetchE L2 1 (n + m) = 0 ∧ fetchX L2 1 (n + m) = A ++ B ∧ fetchL L2 1 (n + m) = L3 ∧
      MailOK L1 ∧ MailOK L2 ∧ MailOK L3 ∧ Full A ∧ Full B ∧ A.length ≤ 64 ∧ B.length ≤ 64 ∧ lenM L3 0 = lenM L3 1 := by
  have f1 := fetch_facts (L := L) (k := 0) (by omega) hn
  have f2 := fetch_facts (L := fetchL L 0 n) (k := 0) (by rw [f1.2.2.1]; omega) hm
  have g1 : (fetchL (fetchL L 0 n) 0 m).getD 1 [] = ts := by rw [fetch_other (by omega), fetch_other (by omega), h1]
  have f3 := fetch_facts (L := fetchL (fetchL L 0 n) 0 m) (k := 1) (by rw [f2.2.2.1, f1.2.2.1]; omega) (show 0 ≤ n + m by omega)
  have q1 := fetchX_full hM 0 n
  have q2 := fetchX_full (hM.fetch 0 n) 0 m
  refine ⟨_, _, _, _, _, f1.1, rfl, rfl, f2.1, rfl, rfl, f3.1, ?_, rfl, hM.fetch _ _, (hM.fetch _ _).fetch _ _, ((hM.fetch _ _).fetch _ _).fetch _ _, q1.1, q2.1, q1.2, q2.2, ?_⟩
  · rw [f3.2.1, f1.2.1, f2.2.1, g1, f1.2.2.2, h0, show (n + m).toNat = n.toNat + m.toNat by omega, List.take_add]
  · unfold lenM
    rw [fetch_other (by omega), f2.2.2.2, f1.2.2.2, f3.2.2.2, g1, h0, List.drop_drop, show (n + m).toNat = n.toNat + m.toNat by omega]
set_option maxRecDepth 10000 in
set_option maxHeartbeats 4000000 in
theorem mailboxParts_walk (a : Option Addr) (len cap : Nat) (z1 z2 : Int) (w : World) (h1 : StrRow w a len) (hz1 : (Lit.int .i64 z1).wf = true) (hz2 : (Lit.int .i64 z2).wf = true) :
    Calls Try.prog 7 #[.slice a len cap, .int .i64 z1, .int .i64 z2] w fun e w' => e = .returned (.bool true) ∧ Below w.heap.size w w' := by
  obtain ⟨hlen, b, off, hcell⟩ := h1
  have H := At.start w
  obtain ⟨x1, hx1, hx1a, hx1b⟩ := low16 z1
  obtain ⟨x2, hx2, hx2a, hx2b⟩ := low16 z2
  obtain ⟨n, hn, hna, hnb⟩ := mod_range x1 51 (by omega)
  obtain ⟨q, hq, hqa, hqb⟩ := mod_range x2 51 (by omega)
  have hM0 := MailOK.new 2
  go_enter Try.func7, Try.ntmps7
  go_wp2_with fail
  refine (shown_c H).mono ?_; rintro e w' ⟨rfl, H⟩
  go_wp2_with fail
  refine (new_c H _).mono ?_; rintro e w' ⟨m, rfl, H⟩
  go_wp2_with fail
  go_loopw [9] (fun i wr => ∃ j : Nat, (j : Int) ≤ 60 ∧ i = .int .i64 j ∧ PartsR w m j wr) (fun i _ => 60 - (intOf i).toNat)
  case atStart => exact ⟨0, by omega, rfl, newL 2, [], hM0, by rw [length_new]; rfl, getD_new _ _, getD_new _ _, rfl, H⟩
  case round =>
    clear H hM0
    obtain ⟨j, hj, rfl, L, ts, hM, hl, h0, h1, htl, H⟩ := hrel
    by_cases hj1 : (j : Int) < len
    · by_cases hj2 : (j : Int) < 60
      · obtain ⟨ha, hblt, s, hs, hss⟩ := hcell j (by omega)
        subst ha
        clear hcell
        have Hp := Lib.hid (parts_put hl h0 h1 htl (by omega) (bodyOf s))
        have hs' := (H.below.cell hblt).trans hs
        go_wp2_with fail
        refine (body_c H s hss).mono ?_; rintro e w' ⟨rfl, H⟩
        go_wp2_with fail
        refine (put_c H hM 0 (by omega) (by omega) _ (bodyOf_length _)).mono ?_; rintro e w' ⟨rfl, H⟩
        rw [show (0 : Int).toNat = 0 from rfl] at H ⊢
        rw [Hp.out.1]
        clear hs'
        have hs' := (H.below.cell hblt).trans hs
        go_wp2_with fail
        refine (body_c H s hss).mono ?_; rintro e w' ⟨rfl, H⟩
        go_wp2_with fail
        refine (put_c H (hM.put _ (bodyOf_length _)) 1 (by omega) (by omega) _ (bodyOf_length _)).mono ?_; rintro e w' ⟨rfl, H⟩
        rw [show (1 : Int).toNat = 1 from rfl] at H ⊢
        rw [Hp.out.2.1]
        go_wp2
        go_roundw
        case rel => exact ⟨j + 1, by omega, by go_num, _, _, (hM.put _ (bodyOf_length _)).put _ (bodyOf_length _), Hp.out.2.2.1, Hp.out.2.2.2.1, Hp.out.2.2.2.2, by simp [htl], H⟩
        case measure => simp [intOf]; omega
      · obtain ⟨A, B, L1, L2, L3, e1, hA, hL1, e2, hB, hL2, e3, hC, hL3, hM1, hM2, hM3, hFA, hFB, hAl, hBl, hll⟩ := parts_fetch hM hl h0 h1 hna hqa
        have E1 := Lib.hid e1
        have E2 := Lib.hid e2
        have E3 := Lib.hid e3
        have HA := Lib.hid hA
        have HB := Lib.hid hB
        have HC := Lib.hid hC
        have HL1 := Lib.hid hL1
        have HL2 := Lib.hid hL2
        have HL3 := Lib.hid hL3
        have HLL := Lib.hid hll
        clear e1 e2 e3 hA hB hC hL1 hL2 hL3 hll h0 h1 hcell
        go_wp2_with fail
        refine (fetch_c H hM 0 (by omega) (by omega) _).mono ?_; rintro e w' ⟨u, rfl, H⟩
        obtain ⟨ua, uc, rfl⟩ := H.rows_slice
        rw [show (0 : Int).toNat = 0 from rfl] at H ⊢
        rw [HA.out, HL1.out] at H
        rw [E1.out, HA.out]
        go_wp2_with fail
        refine (fetch_c (H.pull 1 rfl) hM1 0 (by omega) (by omega) _).mono ?_; rintro e w' ⟨u, rfl, H⟩
        obtain ⟨ub, ud, rfl⟩ := H.rows_slice
        rw [show (0 : Int).toNat = 0 from rfl] at H ⊢
        rw [HB.out, HL2.out] at H
        rw [E2.out, HB.out]
        go_wp2_with fail
        refine (fetch_c (H.pull 1 rfl) hM2 1 (by omega) (by omega) _).mono ?_; rintro e w' ⟨u, rfl, H⟩
        obtain ⟨ug, uh, rfl⟩ := H.rows_slice
        rw [show (1 : Int).toNat = 1 from rfl] at H ⊢
        rw [HC.out, HL3.out] at H
        rw [E3.out, HC.out]
        go_wp2_with ((with_reducible refine wpList_op rfl ?_); intro _ hK; first | (refine wp_build0 rfl H (fun v w' H => hK _ _ ?_)) | (refine wp_app_rows (xs := []) (ys := A) _ _ rfl rfl H rfl 3 hFA rfl (by simp; omega) (fun v c w' H => hK _ _ ?_)) | (refine wp_app_rows (xs := [] ++ A) (ys := B) _ _ rfl rfl H rfl 2 hFB rfl (by simp; omega) (fun v c w' H => hK _ _ ?_)))
        obtain ⟨X, hX⟩ : ∃ X, X = A ++ B := ⟨_, rfl⟩
        have hXl : A.length + B.length = X.length := by rw [hX, List.length_append]
        have hF : Full X := by rw [hX]; exact fun x hx => (List.mem_append.1 hx).elim (hFA x) (hFB x)
        have H2 : Two w X v c ug uh [mail m L3] w' := by rw [hX]; exact H.mask [true, true, true]
        have hXb : X.length ≤ 128 := by omega
        clear H hX
        unfold Two at H2
        have H := H2
        clear H2
        rw [hXl]
        refine (len_c (H.pull 2 rfl) 0 (by omega) (by omega)).mono ?_; rintro e w' ⟨rfl, rfl⟩
        rw [show (0 : Int).toNat = 0 from rfl, HLL.out]
        go_wp2_with fail
        refine (len_c (H.pull 2 rfl) 1 (by omega) (by omega)).mono ?_; rintro e w' ⟨rfl, rfl⟩
        rw [show (1 : Int).toNat = 1 from rfl]
        go_wp2_with fail
        go_loopw [17] (fun i wr => ∃ q : Nat, (q : Int) ≤ X.length ∧ i = .int .i64 q ∧ Two w X v c ug uh [mail m L3] wr) (fun i _ => X.length - (intOf i).toNat)
        case atStart => exact ⟨0, by omega, rfl, H⟩
        case round =>
          clear H
          obtain ⟨q, hq, rfl, H⟩ := hrel
          unfold Two at H
          by_cases hlt : (q : Int) < X.length
          · obtain ⟨x, hx⟩ : ∃ x, X[q]? = some x := ⟨_, List.getElem?_eq_getElem (by omega)⟩
            have hxl : x.length = 256 := hF x (List.mem_of_getElem? hx)
            have hel := Lib.hid (elem_bls hF hx)
            rcases H.rows_value with ⟨_, hn, _⟩ | ⟨ga, oa, ca, e, _⟩
            · omega
            rcases (H.pull 1 rfl).rows_value with ⟨_, hn, _⟩ | ⟨gb, ob, cb, e', _⟩
            · omega
            cases e
            cases e'
            go_wp2_with fail
            refine wpL_begin 9 (Two w X (some ⟨ga, oa, none⟩) c (some ⟨gb, ob, none⟩) uh [mail m L3]) [(0, true), (1, true), (2, true), (3, true), (4, true), (5, true), (6, true), (7, true), (8, true)] rfl (by kernel_rfl) (by kernel_rfl) ((H.drew)) ?_
            intro ops hOps hS
            replace H := H.drew
            refine wpL_take hOps hS rfl (fun _ _ _ h => h) (yl_move rfl _ rfl) ?_
            simp only [Act.put, Act.eval, List.setIfInBounds_toArray, List.set_cons_zero, List.set_cons_succ, Array.getD_eq_getD_getElem?, List.getElem?_toArray, List.getElem?_cons_zero, List.getElem?_cons_succ, Option.getD_some]
            refine wpL_take hOps hS rfl (fun _ _ _ h => h) (yl_move rfl _ rfl) ?_
            simp only [Act.put, Act.eval, List.setIfInBounds_toArray, List.set_cons_zero, List.set_cons_succ, Array.getD_eq_getD_getElem?, List.getElem?_toArray, List.getElem?_cons_zero, List.getElem?_cons_succ, Option.getD_some]
            refine wpL_take hOps hS (v := ?vOp10) rfl (fun _ _ _ h => h) (yl rfl ?yOp10) ?_
            case yOp10 => (intro w hw; go_simp; first | done | rfl)
            simp only [Act.put, Act.eval, List.setIfInBounds_toArray, List.set_cons_zero, List.set_cons_succ, Array.getD_eq_getD_getElem?, List.getElem?_toArray, List.getElem?_cons_zero, List.getElem?_cons_succ, Option.getD_some]
            refine wpL_take hOps hS rfl (fun _ _ _ h => h) (yieldsIf_load_mid rfl _ _ rfl ga (oa + q * 256) rfl (bl x) _ (fun w hw => by rw [← hel.out]; exact At.rows_elem hw (by omega)) under_body rfl (by rw [bl_length, hxl]; kernel_rfl)) ?_
            simp only [Act.put, Act.eval, List.setIfInBounds_toArray, List.set_cons_zero, List.set_cons_succ, Array.getD_eq_getD_getElem?, List.getElem?_toArray, List.getElem?_cons_zero, List.getElem?_cons_succ, Option.getD_some]
            refine wpL_take hOps hS rfl (fun _ _ _ h => h) (yl_move rfl _ rfl) ?_
            simp only [Act.put, Act.eval, List.setIfInBounds_toArray, List.set_cons_zero, List.set_cons_succ, Array.getD_eq_getD_getElem?, List.getElem?_toArray, List.getElem?_cons_zero, List.getElem?_cons_succ, Option.getD_some]
            refine wpL_take hOps hS rfl (fun _ _ _ h => h) (yl_move rfl _ rfl) ?_
            simp only [Act.put, Act.eval, List.setIfInBounds_toArray, List.set_cons_zero, List.set_cons_succ, Array.getD_eq_getD_getElem?, List.getElem?_toArray, List.getElem?_cons_zero, List.getElem?_cons_succ, Option.getD_some]
            refine wpL_take hOps hS (v := ?vOp20) rfl (fun _ _ _ h => h) (yl rfl ?yOp20) ?_
            case yOp20 => (intro w hw; go_simp; first | done | rfl)
            simp only [Act.put, Act.eval, List.setIfInBounds_toArray, List.set_cons_zero, List.set_cons_succ, Array.getD_eq_getD_getElem?, List.getElem?_toArray, List.getElem?_cons_zero, List.getElem?_cons_succ, Option.getD_some]
            refine wpL_take hOps hS rfl (fun _ _ _ h => h) (yieldsIf_load_mid rfl _ _ rfl gb (ob + q * 256) rfl (bl x) _ (fun w hw => by rw [← hel.out]; exact At.rows_elem (At.pull hw 1 rfl) (by omega)) under_body rfl (by rw [bl_length, hxl]; kernel_rfl)) ?_
            simp only [Act.put, Act.eval, List.setIfInBounds_toArray, List.set_cons_zero, List.set_cons_succ, Array.getD_eq_getD_getElem?, List.getElem?_toArray, List.getElem?_cons_zero, List.getElem?_cons_succ, Option.getD_some]
            refine wpL_take hOps hS rfl (fun _ _ _ h => h) (yl rfl fun w _ => exec_neq_bytes rfl rfl rfl under_body under_uint8 size_uint8 noguard_body hxl hxl) ?_
            simp only [Act.put, Act.eval, List.setIfInBounds_toArray, List.set_cons_zero, List.set_cons_succ, Array.getD_eq_getD_getElem?, List.getElem?_toArray, List.getElem?_cons_zero, List.getElem?_cons_succ, Option.getD_some]
            rw [beq_self_eq_true, Bool.not_true]
            refine wpL_end ?_
            clear hOps hS ops
            go_wp2
            go_roundw
            case rel => exact ⟨q + 1, by omega, by go_num, H⟩
            case measure => simp [intOf]; omega
          · go_wp2
            go_ret
            exact ⟨rfl, H.below⟩
    · obtain ⟨A, B, L1, L2, L3, e1, hA, hL1, e2, hB, hL2, e3, hC, hL3, hM1, hM2, hM3, hFA, hFB, hAl, hBl, hll⟩ := parts_fetch hM hl h0 h1 hna hqa
      have E1 := Lib.hid e1
      have E2 := Lib.hid e2
      have E3 := Lib.hid e3
      have HA := Lib.hid hA
      have HB := Lib.hid hB
      have HC := Lib.hid hC
      have HL1 := Lib.hid hL1
      have HL2 := Lib.hid hL2
      have HL3 := Lib.hid hL3
      have HLL := Lib.hid hll
      clear e1 e2 e3 hA hB hC hL1 hL2 hL3 hll h0 h1 hcell
      go_wp2_with fail
      refine (fetch_c H hM 0 (by omega) (by omega) _).mono ?_; rintro e w' ⟨u, rfl, H⟩
      obtain ⟨ua, uc, rfl⟩ := H.rows_slice
      rw [show (0 : Int).toNat = 0 from rfl] at H ⊢
      rw [HA.out, HL1.out] at H
      rw [E1.out, HA.out]
      go_wp2_with fail
      refine (fetch_c (H.pull 1 rfl) hM1 0 (by omega) (by omega) _).mono ?_; rintro e w' ⟨u, rfl, H⟩
      obtain ⟨ub, ud, rfl⟩ := H.rows_slice
      rw [show (0 : Int).toNat = 0 from rfl] at H ⊢
      rw [HB.out, HL2.out] at H
      rw [E2.out, HB.out]
      go_wp2_with fail
      refine (fetch_c (H.pull 1 rfl) hM2 1 (by omega) (by omega) _).mono ?_; rintro e w' ⟨u, rfl, H⟩
      obtain ⟨ug, uh, rfl⟩ := H.rows_slice
      rw [show (1 : Int).toNat = 1 from rfl] at H ⊢
      rw [HC.out, HL3.out] at H
      rw [E3.out, HC.out]
      go_wp2_with ((with_reducible refine wpList_op rfl ?_); intro _ hK; first | (refine wp_build0 rfl H (fun v w' H => hK _ _ ?_)) | (refine wp_app_rows (xs := []) (ys := A) _ _ rfl rfl H rfl 3 hFA rfl (by simp; omega) (fun v c w' H => hK _ _ ?_)) | (refine wp_app_rows (xs := [] ++ A) (ys := B) _ _ rfl rfl H rfl 2 hFB rfl (by simp; omega) (fun v c w' H => hK _ _ ?_)))
      obtain ⟨X, hX⟩ : ∃ X, X = A ++ B := ⟨_, rfl⟩
      have hXl : A.length + B.length = X.length := by rw [hX, List.length_append]
      have hF : Full X := by rw [hX]; exact fun x hx => (List.mem_append.1 hx).elim (hFA x) (hFB x)
      have H2 : Two w X v c ug uh [mail m L3] w' := by rw [hX]; exact H.mask [true, true, true]
      have hXb : X.length ≤ 128 := by omega
      clear H hX
      unfold Two at H2
      have H := H2
      clear H2
      rw [hXl]
      refine (len_c (H.pull 2 rfl) 0 (by omega) (by omega)).mono ?_; rintro e w' ⟨rfl, rfl⟩
      rw [show (0 : Int).toNat = 0 from rfl, HLL.out]
      go_wp2_with fail
      refine (len_c (H.pull 2 rfl) 1 (by omega) (by omega)).mono ?_; rintro e w' ⟨rfl, rfl⟩
      rw [show (1 : Int).toNat = 1 from rfl]
      go_wp2_with fail
      go_loopw [17] (fun i wr => ∃ q : Nat, (q : Int) ≤ X.length ∧ i = .int .i64 q ∧ Two w X v c ug uh [mail m L3] wr) (fun i _ => X.length - (intOf i).toNat)
      case atStart => exact ⟨0, by omega, rfl, H⟩
      case round =>
        clear H
        obtain ⟨q, hq, rfl, H⟩ := hrel
        unfold Two at H
        by_cases hlt : (q : Int) < X.length
        · obtain ⟨x, hx⟩ : ∃ x, X[q]? = some x := ⟨_, List.getElem?_eq_getElem (by omega)⟩
          have hxl : x.length = 256 := hF x (List.mem_of_getElem? hx)
          have hel := Lib.hid (elem_bls hF hx)
          rcases H.rows_value with ⟨_, hn, _⟩ | ⟨ga, oa, ca, e, _⟩
          · omega
          rcases (H.pull 1 rfl).rows_value with ⟨_, hn, _⟩ | ⟨gb, ob, cb, e', _⟩
          · omega
          cases e
          cases e'
          go_wp2_with fail
          refine wpL_begin 9 (Two w X (some ⟨ga, oa, none⟩) c (some ⟨gb, ob, none⟩) uh [mail m L3]) [(0, true), (1, true), (2, true), (3, true), (4, true), (5, true), (6, true), (7, true), (8, true)] rfl (by kernel_rfl) (by kernel_rfl) ((H.drew)) ?_
          intro ops hOps hS
          replace H := H.drew
          refine wpL_take hOps hS rfl (fun _ _ _ h => h) (yl_move rfl _ rfl) ?_
          simp only [Act.put, Act.eval, List.setIfInBounds_toArray, List.set_cons_zero, List.set_cons_succ, Array.getD_eq_getD_getElem?, List.getElem?_toArray, List.getElem?_cons_zero, List.getElem?_cons_succ, Option.getD_some]
          refine wpL_take hOps hS rfl (fun _ _ _ h => h) (yl_move rfl _ rfl) ?_
          simp only [Act.put, Act.eval, List.setIfInBounds_toArray, List.set_cons_zero, List.set_cons_succ, Array.getD_eq_getD_getElem?, List.getElem?_toArray, List.getElem?_cons_zero, List.getElem?_cons_succ, Option.getD_some]
          refine wpL_take hOps hS (v := ?vOp36) rfl (fun _ _ _ h => h) (yl rfl ?yOp36) ?_
          case yOp36 => (intro w hw; go_simp; first | done | rfl)
          simp only [Act.put, Act.eval, List.setIfInBounds_toArray, List.set_cons_zero, List.set_cons_succ, Array.getD_eq_getD_getElem?, List.getElem?_toArray, List.getElem?_cons_zero, List.getElem?_cons_succ, Option.getD_some]
          refine wpL_take hOps hS rfl (fun _ _ _ h => h) (yieldsIf_load_mid rfl _ _ rfl ga (oa + q * 256) rfl (bl x) _ (fun w hw => by rw [← hel.out]; exact At.rows_elem hw (by omega)) under_body rfl (by rw [bl_length, hxl]; kernel_rfl)) ?_
          simp only [Act.put, Act.eval, List.setIfInBounds_toArray, List.set_cons_zero, List.set_cons_succ, Array.getD_eq_getD_getElem?, List.getElem?_toArray, List.getElem?_cons_zero, List.getElem?_cons_succ, Option.getD_some]
          refine wpL_take hOps hS rfl (fun _ _ _ h => h) (yl_move rfl _ rfl) ?_
          simp only [Act.put, Act.eval, List.setIfInBounds_toArray, List.set_cons_zero, List.set_cons_succ, Array.getD_eq_getD_getElem?, List.getElem?_toArray, List.getElem?_cons_zero, List.getElem?_cons_succ, Option.getD_some]
          refine wpL_take hOps hS rfl (fun _ _ _ h => h) (yl_move rfl _ rfl) ?_
          simp only [Act.put, Act.eval, List.setIfInBounds_toArray, List.set_cons_zero, List.set_cons_succ, Array.getD_eq_getD_getElem?, List.getElem?_toArray, List.getElem?_cons_zero, List.getElem?_cons_succ, Option.getD_some]
          refine wpL_take hOps hS (v := ?vOp46) rfl (fun _ _ _ h => h) (yl rfl ?yOp46) ?_
          case yOp46 => (intro w hw; go_simp; first | done | rfl)
          simp only [Act.put, Act.eval, List.setIfInBounds_toArray, List.set_cons_zero, List.set_cons_succ, Array.getD_eq_getD_getElem?, List.getElem?_toArray, List.getElem?_cons_zero, List.getElem?_cons_succ, Option.getD_some]
          refine wpL_take hOps hS rfl (fun _ _ _ h => h) (yieldsIf_load_mid rfl _ _ rfl gb (ob + q * 256) rfl (bl x) _ (fun w hw => by rw [← hel.out]; exact At.rows_elem (At.pull hw 1 rfl) (by omega)) under_body rfl (by rw [bl_length, hxl]; kernel_rfl)) ?_
          simp only [Act.put, Act.eval, List.setIfInBounds_toArray, List.set_cons_zero, List.set_cons_succ, Array.getD_eq_getD_getElem?, List.getElem?_toArray, List.getElem?_cons_zero, List.getElem?_cons_succ, Option.getD_some]
          refine wpL_take hOps hS rfl (fun _ _ _ h => h) (yl rfl fun w _ => exec_neq_bytes rfl rfl rfl under_body under_uint8 size_uint8 noguard_body hxl hxl) ?_
          simp only [Act.put, Act.eval, List.setIfInBounds_toArray, List.set_cons_zero, List.set_cons_succ, Array.getD_eq_getD_getElem?, List.getElem?_toArray, List.getElem?_cons_zero, List.getElem?_cons_succ, Option.getD_some]
          rw [beq_self_eq_true, Bool.not_true]
          refine wpL_end ?_
          clear hOps hS ops
          go_wp2
          go_roundw
          case rel => exact ⟨q + 1, by omega, by go_num, H⟩
          case measure => simp [intOf]; omega
        · go_wp2
          go_ret
          exact ⟨rfl, H.below⟩
theorem mailboxParts_own : ownKnob Try.prog.godebug = none := by kernel_rfl
theorem mailboxParts_laid : laidOutB Try.prog = true := by kernel_rfl
set_option maxRecDepth 100000 in
theorem mailboxParts_lifted (os : Os) (started : os.Started) (H : Type) (enc : TypeId × Value → H) :
    ReturnsInHanded {} Try.checked os 7 .any (Rows.mailboxPartsSpec.pre6 enc Try.prog Try.f7 Rows.mailboxPartsRow.domain false) (Rows.mailboxPartsSpec.post enc Try.prog Try.f7 false true false false) := by
  refine returnsInHanded_of_change (C := Try.checked) mailboxParts_own started (by kernel_rfl) Try.func7
    (ChangeSpec.witness6 (enc := enc) (C := Try.checked) false ⟨#[], #[.slice none 0 0, .int .i64 0, .int .i64 0], []⟩ 8 (by kernel_rfl) (by kernel_rfl) (by kernel_rfl) (by kernel_rfl)) ?_
  intro W base args ds gs before hval0 hW hcnd _
  have hval : ∀ (j : Nat) t v, Try.f7.params[j]? = some t → args[j]? = some v → Value.okWide Try.prog W .any base t v := hval0
  have hW' := hW
  obtain ⟨p, q, hA0, hV, rfl, hfz, hnd⟩ := hW
  have hA : DataW.TrodAll enc Try.prog W 0 (fun _ => true) true Try.f7.params.toList args.toList ds p := hA0
  rw [Try.params7] at hA hval
  obtain ⟨v0, vs0, d0, ds0, p0, q0, hargs, rfl, rfl, h0, r0⟩ := trodAll_cons hA
  obtain ⟨v1, vs1, d1, ds1, p1, q1, rfl, rfl, rfl, h1, r1⟩ := trodAll_cons r0
  obtain ⟨v2, vs2, d2, ds2, p2, q2, rfl, rfl, rfl, h2, r2⟩ := trodAll_cons r1
  obtain ⟨rfl, rfl, rfl⟩ := trodAll_nil r2
  obtain rfl : args = #[v0, v1, v2] := by cases args; simp_all
  obtain ⟨rfl, rfl⟩ := trodVars_none hV
  have k0 := h0
  have lt0 : ∀ x ∈ p0, x.block < W.heap.size := by obtain ⟨m, hm⟩ := k0; exact DataW.trod_lt m _ _ _ hm
  have k1 := h1
  have lt1 : ∀ x ∈ p1, x.block < W.heap.size := by obtain ⟨m, hm⟩ := k1; exact DataW.trod_lt m _ _ _ hm
  have k2 := h2
  have lt2 : ∀ x ∈ p2, x.block < W.heap.size := by obtain ⟨m, hm⟩ := k2; exact DataW.trod_lt m _ _ _ hm
  obtain ⟨a0_0, a0_1, a0_2, f0, rfl⟩ := open_strings_row (hval 0 43 v0 rfl rfl) h0
  obtain ⟨a1, rfl, rfl, rfl, f1⟩ := open_int Try.underlying3 (hval 1 3 v1 rfl rfl) h1
  obtain ⟨a2, rfl, rfl, rfl, f2⟩ := open_int Try.underlying3 (hval 2 3 v2 rfl rfl) h2
  clear hA0 hval0
  refine (mailboxParts_walk a0_0 a0_1 a0_2 a1 a2 W f0 f1 f2).mono fun e W' ⟨he, bel⟩ => ?_
  subst he
  exact ⟨_, rfl, _, _, _, [], _, [], hW', trodAll_mk1 (shut_bool Try.underlying4 _), (trodAll_cons_mk (Below.trod mailboxParts_laid (by kernel_rfl) (of_decide_eq_true (by kernel_rfl)) k0 bel lt0) (trodAll_cons_mk (Below.trod mailboxParts_laid (by kernel_rfl) (of_decide_eq_true (by kernel_rfl)) k1 bel lt1) (trodAll_cons_mk (Below.trod mailboxParts_laid (by kernel_rfl) (of_decide_eq_true (by kernel_rfl)) k2 bel lt2) trodAll_mk0))), rfl, bel.frame _, fun h => by cases h⟩
theorem mailboxParts_holds : Rows.MailboxPartsSaid :=
  OpenClaim.holds_of_wide 7 Try.f7 rfl rfl rfl rfl rfl rfl rfl ⟨rfl, rfl, rfl, rfl, rfl⟩ rfl rfl rfl rfl rfl (by kernel_rfl) Try.func7 (by kernel_rfl)
    (of_decide_eq_true (by kernel_rfl)) (by unfold Func.isWrapper; first | (rw [if_pos (by decide +kernel)]; kernel_rfl) | (rw [if_neg (by decide +kernel)]; exact ⟨rfl, rfl⟩))
    (fun os started H enc _ => mailboxParts_lifted os started H enc)
#print axioms mailboxParts_holds
end Go.Proofs.Ytogicnbocefkbaa
