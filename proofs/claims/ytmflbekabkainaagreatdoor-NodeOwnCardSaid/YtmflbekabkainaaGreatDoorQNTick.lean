import Derived.Test.YtmflbekabkainaaGreatDoorQNode
import Derived.Deep.CutRange
set_option linter.unusedVariables false
set_option linter.unusedSimpArgs false
namespace Go.Hg
open Go.RowKit
section
variable {w0 w : World} {F L : List SP} {P : SP}
def bag (L : List SP) : SP := fun h => seps L h
theorem At.bag_add (H : At w0 (bag L :: P :: F) w) : At w0 (bag (L ++ [P]) :: F) w := At.closed (A := [bag L, P]) (P := bag (L ++ [P])) H fun h x => seps_join L h x
theorem At.bag_nil (H : At w0 F w) : At w0 (bag [] :: F) w := H.mk_fact (p := True) trivial
theorem At.bag_open (H : At w0 (bag L :: F) w) : At w0 (L ++ F) w := H.opened fun _ x => x
theorem At.bag_shut (L : List SP) (H : At w0 (L ++ F) w) : At w0 (bag L :: F) w := At.closed H fun _ x => x
attribute [irreducible] bag
end
def waitW (w : World) (hb : Nat) : Nat := match w.cell? ⟨hb, 1, none⟩ with
 | some (.slice _ n _) => n
 | _ => 0
end Go.Hg
namespace Go.Proofs.YtmflbekabkainaaGreatDoor
open Go.RowKit Go.Hg
abbrev OutV := Nat × Option Addr × Nat × Nat
def outC (x : OutV) : List Value := [.int .u16 (x.1 : Int), .slice x.2.1 x.2.2.1 x.2.2.2]
theorem info_out : (Tryz.prog.info? 66).map (fun i => (i.zero, i.size, i.bytes)) = some (some (.agg (outC (0, none, 0, 0)).toArray), 2, 32) := by kernel_rfl
theorem el_out : El Tryz.prog 66 2 32 outC := ⟨⟨_, info_out, rfl⟩, fun _ => rfl, fun x u hu => by simp [outC] at hu; rcases hu with rfl | rfl <;> rfl⟩
theorem under_outs : Tryz.prog.underlying 51 = some (.slice 66) := by kernel_rfl
def outRow (x : OutV) (y : Nat × Bytes) : SP := lrow 5 1 c8 (.slice x.2.1 x.2.2.1 x.2.2.2) y.2
def outFit (xs : List OutV) (l : List (Nat × Bytes)) : Prop := xs.map (fun x => (x.1, x.2.2.1)) = l.map fun y => (y.1, y.2.length)
def outo (v : Value) (l : List (Nat × Bytes)) : SP := fun h => ∃ xs, outFit xs l ∧ seps [lrow 66 2 outC v xs, bag (List.zipWith outRow xs l)] h
theorem out_open {w0 w : World} {F : List SP} {v : Value} {l : List (Nat × Bytes)} (H : At w0 (outo v l :: F) w) : ∃ xs, outFit xs l ∧ At w0 (lrow 66 2 outC v xs :: bag (List.zipWith outRow xs l) :: F) w := by
 obtain ⟨b, h, ⟨h1, h2, ⟨xs, e, x⟩, q', r⟩, t, u⟩ := H
 exact ⟨xs, e, b, h, seps_join [_, _] h ⟨h1, h2, x, q', r⟩, t, u⟩
theorem out_shut {w0 w : World} {F : List SP} {v : Value} {l : List (Nat × Bytes)} {xs : List OutV} (e : outFit xs l) (H : At w0 (lrow 66 2 outC v xs :: bag (List.zipWith outRow xs l) :: F) w) : At w0 (outo v l :: F) w :=
 H.imp fun h x => sep_mono (seps_split [_, _] h x) (fun _ x => ⟨xs, e, x⟩) (fun _ x => x)
theorem outFit.len {xs : List OutV} {l : List (Nat × Bytes)} (h : outFit xs l) : xs.length = l.length := by simpa using congrArg List.length h
theorem out_nil {w0 w : World} {F : List SP} (H : At w0 F w) : At w0 (outo (.slice none 0 0) [] :: F) w := out_shut (xs := []) rfl (lrow_nil (H.bag_nil) _ _ _)
theorem out_slice {w0 w : World} {F : List SP} {v : Value} {l : List (Nat × Bytes)} (H : At w0 (outo v l :: F) w) : ∃ a q, v = .slice a l.length q := by
 obtain ⟨xs, e, H⟩ := out_open H
 obtain ⟨a, q, rfl⟩ := H.lrow_slice
 exact ⟨a, q, by rw [e.len]⟩
attribute [irreducible] outo
theorem boxE_eq (s : NodeD) (k : Nat) : Mb.putE (mailU s.mail) k = (s.boxE k : Int) := by
 unfold Mb.putE NodeD.boxE mailU
 rw [List.length_map]
 have e : (List.map (fun xs => List.map toU xs) s.mail).getD k [] = ((s.mail.getD k []).map toU) := by
  rw [List.getD_eq_getElem?_getD, List.getD_eq_getElem?_getD, List.getElem?_map]
  cases s.mail[k]? <;> rfl
 rw [e, List.length_map]
 split
 · rfl
 · split <;> rfl
theorem putL_eq (s : NodeD) (k : Nat) (b : Bytes) : Mb.putL (mailU s.mail) k (toU b) = if s.boxE k = 0 then mailU (s.mail.set k (s.mail.getD k [] ++ [b])) else mailU s.mail := by
 unfold Mb.putL NodeD.boxE mailU
 rw [List.length_map]
 have e : (List.map (fun xs => List.map toU xs) s.mail).getD k [] = ((s.mail.getD k []).map toU) := by
  rw [List.getD_eq_getElem?_getD, List.getD_eq_getElem?_getD, List.getElem?_map]
  cases s.mail[k]? <;> rfl
 rw [e, List.length_map]
 split
 · rfl
 · split
   · rfl
   · rw [if_pos rfl, List.map_set]
     simp
theorem mailOK_of {s : NodeD} {n m : Nat} (h : s.ok n m) : Mb.MailOK (mailU s.mail) := by
 refine ⟨by rw [mailU, List.length_map]; exact h.boxes, fun xs hx => ?_⟩
 obtain ⟨l, hl, rfl⟩ := List.mem_map.1 hx
 refine ⟨by rw [List.length_map]; exact (h.bodies l hl).1, fun x hx => ?_⟩
 obtain ⟨b, hb, rfl⟩ := List.mem_map.1 hx
 rw [toU, List.length_map]
 exact (h.bodies l hl).2 b hb
theorem waitW_at {w0 w : World} {F : List SP} {hb : Nat} {most nx : Int} {S : List Thing} (H : At w0 (heapW hb most nx S :: F) w) : waitW w hb = S.length := by
 obtain ⟨a, cap, l, ho, hp, H⟩ := heapW_open H
 unfold hdW at H
 unfold waitW
 rw [show w.cell? ⟨hb, 1, none⟩ = some (.slice a l.length cap) from raw_at (H.heap 0 rfl) rfl]
 exact hp.length_eq
theorem wt_last (x : WtO) : x.1.cells[0]? = some (.bool x.1.s.last) := rfl
theorem wt_next (x : WtO) : x.1.cells[1]? = some (.int .u16 (x.1.s.next : Int)) := rfl
theorem wt_box (x : WtO) : x.1.cells[2]? = some (.int .u16 (x.1.s.box : Int)) := rfl
theorem wt_body (x : WtO) : (x.1.cells.drop 394).take 256 = v8 x.1.p.body := by
 have h1 : x.1.s.cells.length = 40 := SlotD.cells_length x.2.s.nonce x.2.s.mac
 rw [show 394 = 40 + 354 from rfl, ← List.drop_drop, Wt.cells, ← h1, List.drop_left]
 exact PktD.part_body x.2.p
theorem places_out : placesOf Tryz.prog 66 = some ([Value.int .u16 0, .slice none 0 0], [(0, 1), (1, 1)]) := by kernel_rfl
theorem built_out (x : OutV) (w : World) : (Instr.build 66 [(0, Value.int .u16 (x.1 : Int)), (1, .slice x.2.1 x.2.2.1 x.2.2.2)].toArray).run Tryz.prog w = .ok (.agg (outC x).toArray) w :=
 run_buildL places_out [(0, Value.int .u16 (x.1 : Int)), (1, .slice x.2.1 x.2.2.1 x.2.2.2)] rfl w
theorem fit_add {xs : List OutV} {l : List (Nat × Bytes)} (h : outFit xs l) {x : OutV} {y : Nat × Bytes} (h1 : x.1 = y.1) (h2 : x.2.2.1 = y.2.length) : outFit (xs ++ [x]) (l ++ [y]) := by
 unfold outFit at h ⊢
 rw [List.map_append, List.map_append, h]
 simp [h1, h2]
theorem size_a256 : (Tryz.prog.info? 87).map (·.size) = some 256 := by kernel_rfl
theorem boxE_lt (s : NodeD) (k : Nat) : s.boxE k < 13 := by
 unfold NodeD.boxE
 repeat' split
 all_goals omega
theorem pops_over {S : NodeD} {now : Nat} (h : popB S.hp now = false) : NodeD.pops S.hp.length S now = S ∧ NodeD.popsO S.hp.length S now = [] := by
 cases S.hp.length with
 | zero => exact ⟨rfl, rfl⟩
 | succ n => simp [NodeD.pops, NodeD.popsO, h]
theorem pops_more {S : NodeD} {now : Nat} (h : popB S.hp now = true) : NodeD.pops S.hp.length S now = NodeD.pops (S.pop now).hp.length (S.pop now) now ∧ NodeD.popsO S.hp.length S now = S.popO now ++ NodeD.popsO (S.pop now).hp.length (S.pop now) now ∧ (S.pop now).hp.length + 1 = S.hp.length := by
 have h1 := NodeD.popB_len h
 have h2 := NodeD.pop_hp S now
 rw [h2]
 obtain ⟨j, hj⟩ : ∃ j, j = (popR S.hp now).length := ⟨_, rfl⟩
 rw [← hj] at h1 ⊢
 rw [← h1]
 simp [NodeD.pops, NodeD.popsO, h]
section
variable {w0 w : World} {F : List SP} {p mb : Nat} {s : NodeD}
set_option maxRecDepth 10000 in
set_option maxHeartbeats 8000000 in
theorem ntick_c {n m : Nat} (H : At w0 (nodeo p mb s :: F) w) (hs : s.ok n m) (hm : m ≤ 900000) {now : Nat} (hnow : now < 18446744073709551616) :
    Calls Tryz.prog 22 #[.pointer (some ⟨p, 0, none⟩), .int .u64 (now : Int)] w fun e w' => ∃ v, e = .returned v ∧ At w0 (outo v (s.tickO now) :: nodeo p mb (s.tick now) :: F) w' := by
 obtain ⟨cb, hb, tb, H⟩ := node_open H
 obtain ⟨S0, hS0⟩ : ∃ S0, S0 = s.expire now := ⟨_, rfl⟩
 obtain ⟨TO, hTO⟩ : ∃ TO, TO = s.tickO now := ⟨_, rfl⟩
 obtain ⟨TS, hTS⟩ : ∃ TS, TS = s.tick now := ⟨_, rfl⟩
 have H0 := Lib.hid (And.intro hS0 (And.intro hTO hTS))
 have HNOW := Lib.hid hnow
 have HS := Lib.hid hs
 have HM := Lib.hid hm
 rw [← hTO, ← hTS]
 clear hS0 hTO hTS hnow hs hm
 go_enter Tryz.func22, Tryz.ntmps22
 go_upto_region 1 with fail
 go_wp2_with fail
 refine (epoch_c HNOW.out _).mono ?_; rintro e' w' ⟨rfl, rfl⟩
 obtain ⟨d, hd⟩ : ∃ d, d = now / 1000 := ⟨_, rfl⟩
 rw [← hd]
 have HD := Lib.hid hd
 clear hd
 go_upto_region 2 with fail
 go_cut [5, 20] from 6 to 20 (fun x b wr => x = .int .u32 (low32 d : Int) ∧ b = .bool (decide (d < 4294967296 ∧ 0 < d)) ∧ At w0 (raw p (nodeC s cb hb tb mb).toArray 96 :: mapo ekW evK okW cb s.cl :: heapW hb (s.room : Int) (s.nx : Int) s.hp :: tago tb s.tags s.seen s.many s.floor :: Mb.mail mb (mailU s.mail) :: F) wr)
 case first =>
  by_cases h1 : d < 4294967296
  · by_cases h2 : 0 < d
    · rw [decide_eq_true h1, show low32 d = d from if_pos h1]
      have b1 : decide (0 < d) = true := decide_eq_true h2
      go_wp2_with fail
      go_meet
      case rel => exact ⟨by rw [show low32 d = d from if_pos h1], by rw [decide_eq_true ⟨h1, h2⟩], H⟩
    · rw [decide_eq_true h1, show low32 d = d from if_pos h1]
      go_wp2_with fail
      go_meet
      case rel => exact ⟨by rw [show low32 d = d from if_pos h1], by rw [decide_eq_false (fun h => h2 h.2)], H⟩
  · rw [decide_eq_false h1]
    go_wp2_with fail
    go_meet
    case rel => exact ⟨rfl, by rw [decide_eq_false (fun h => h1 h.1)], H⟩
 case rest =>
  obtain ⟨rfl, rfl, H⟩ := hcut
  go_upto_if 20 with fail
  go_cut [] from 5 to 27 (fun wr => At w0 (raw p (nodeC S0 cb hb tb mb).toArray 96 :: mapo ekW evK okW cb S0.cl :: heapW hb (S0.room : Int) (S0.nx : Int) S0.hp :: tago tb S0.tags S0.seen S0.many S0.floor :: Mb.mail mb (mailU S0.mail) :: F) wr)
  case first =>
   by_cases hc : d < 4294967296 ∧ 0 < d
   · rw [decide_eq_true hc, show low32 d = d from if_pos hc.1]
     obtain ⟨x, hx⟩ : ∃ x, x = d - 1 := ⟨_, rfl⟩
     have e1 : IntKind.u32.wrap ((d : Int) - 1) = (x : Int) := by rw [IntKind.wrap_u32]; omega
     have hS : S0 = { s with floor := max s.floor x, seen := s.seen.filter fun p => decide (max s.floor x ≤ p.1.1), many := s.many.filter fun p => decide (max s.floor x ≤ p.1) } := by
      rw [H0.out.1, NodeD.expire, if_pos (by rw [← HD.out]; exact hc), hx, HD.out]
     have HX := Lib.hid (show x < 4294967296 by omega)
     have HSS := Lib.hid hS
     clear hc hS hx
     go_wp2_with ((with_reducible refine wpList_op rfl ?_); intro _ hK; (refine dst_is 24 rfl ?_; refine wp_get 92 _ rfl rfl (by kernel_rfl) (at_raw H 0 rfl (j := 5) rfl) (hK _ _ (Stop.go ?_))))
     refine Stop.un ?_
     go_wp2_with fail
     refine (texpire_c (H.pull 3 rfl) HX.out).mono ?_; rintro e' w' ⟨⟨v1, rfl⟩, H⟩
     go_wp2_with fail
     go_meet
     case rel =>
      rw [HSS.out]
      exact ((H.pull 3 rfl).pull 3 rfl).pull 3 rfl
   · rw [decide_eq_false hc]
     have HSS := Lib.hid (show S0 = s by rw [H0.out.1, NodeD.expire, if_neg (by rw [← HD.out]; exact hc)])
     clear hc
     go_wp2_with fail
     go_meet
     case rel =>
      rw [HSS.out]
      exact H
  case rest =>
   replace H := hcut
   clear hcut
   have HI := Lib.hid (show S0.ok n m ∧ s.tick now = NodeD.pops S0.hp.length S0 now ∧ s.tickO now = NodeD.popsO S0.hp.length S0 now ∧ S0.hp.length ≤ 64 by
    have ho := NodeD.expire_ok HS.out now
    have hh : (s.expire now).hp = s.hp := by unfold NodeD.expire; split <;> rfl
    rw [H0.out.1]
    refine ⟨ho, by rw [hh]; rfl, by rw [hh]; rfl, ?_⟩
    have := ho.len
    have := ho.room
    omega)
   replace H := out_nil H
   go_wp2_with fail
   go_loopw [4] (fun l wr => ∃ (S : NodeD) (acc : List (Nat × Bytes)) (k : Nat), S.ok n (m + k) ∧ acc.length ≤ k ∧ k + S.hp.length = S0.hp.length ∧ TS = NodeD.pops S.hp.length S now ∧ TO = acc ++ NodeD.popsO S.hp.length S now ∧ At w0 (outo l acc :: raw p (nodeC S cb hb tb mb).toArray 96 :: mapo ekW evK okW cb S.cl :: heapW hb (S.room : Int) (S.nx : Int) S.hp :: tago tb S.tags S.seen S.many S.floor :: Mb.mail mb (mailU S.mail) :: F) wr) (fun _ wr => waitW wr hb)
   case atStart => exact ⟨S0, [], 0, HI.out.1, by simp, by omega, H0.out.2.2.trans HI.out.2.1, H0.out.2.1.trans HI.out.2.2.1, H⟩
   case round =>
    clear H
    obtain ⟨S, acc, k, hok, hal, hk, hts, hto, H⟩ := hrel
    have HWT := Lib.hid (waitW_at (H.pull 3 rfl))
    have HOK := Lib.hid hok
    have HK := Lib.hid hk
    have HAL := Lib.hid hal
    have HTS := Lib.hid hts
    have HTO := Lib.hid hto
    have HI4 := Lib.hid HI.out.2.2.2
    clear hok hal hk hts hto
    obtain ⟨a, q, rfl⟩ := out_slice H
    obtain ⟨X, hX⟩ : ∃ X, X = popX S.hp now := ⟨_, rfl⟩
    obtain ⟨B, hB⟩ : ∃ B, B = popB S.hp now := ⟨_, rfl⟩
    obtain ⟨R, hR⟩ : ∃ R, R = popR S.hp now := ⟨_, rfl⟩
    obtain ⟨pt, hpt⟩ : ∃ pt, pt = popT S.hp now := ⟨_, rfl⟩
    have hxl := Lib.hid (Wt.cells_length X.2)
    have HX := Lib.hid hX
    have HB := Lib.hid hB
    have HR := Lib.hid hR
    go_wp2_with ((with_reducible refine wpList_op rfl ?_); intro _ hK; (refine dst_is 32 rfl ?_; refine wp_get 84 _ rfl rfl (by kernel_rfl) (at_raw H 1 rfl (j := 4) rfl) (hK _ _ (Stop.go ?_))))
    refine Stop.un ?_
    go_wp2_with fail
    refine (popW_c (H.pull 3 rfl) HOK.out.row (by have := HOK.out.len; have := HOK.out.room; omega) (now : Int)).mono ?_; rintro e' w' ⟨rfl, H⟩
    rw [← hX, ← hB, ← hpt]
    rw [← hR] at H
    clear hX hB hR hpt
    go_wp2_with ((with_reducible refine wpList_op rfl ?_); intro _ hK; first
     | (refine dst_is 7 rfl ?_; refine wp_alloc_sl 91 rfl info_wt H (fun W w' (H : At w0 (raw W Wt.zero.cells.toArray 91 :: _) w') _ => hK _ _ ?_))
     | (refine sto_is 7 rfl ?_; refine wp_store_row_sl 91 _ _ rfl (cells := X.1.cells.toArray) rfl rfl (by rw [List.size_toArray, hxl.out]; exact size_wt) (by simpa using one_wt X) 0 H rfl (by rw [List.size_toArray, List.size_toArray, hxl.out, Wt.cells_length Wt.zero_ok]) (fun w' (H : At w0 (raw W X.1.cells.toArray 91 :: heapW hb (S.room : Int) (S.nx : Int) R :: outo (.slice a acc.length q) acc :: raw p (nodeC S cb hb tb mb).toArray 96 :: mapo ekW evK okW cb S.cl :: tago tb S.tags S.seen S.many S.floor :: Mb.mail mb (mailU S.mail) :: F) w') => hK _ _ (Stop.go ?_))))
    refine Stop.un ?_
    cases B with
    | false =>
     have hov := pops_over HB.out.symm
     have hRS := (pop_false HB.out.symm).2.2
     have hTS : TS = S := HTS.out.trans hov.1
     have hTO : TO = acc := by rw [HTO.out, hov.2, List.append_nil]
     have HH := Lib.hid (And.intro hTS (And.intro hTO (HR.out.trans hRS)))
     clear hov hRS hTS hTO
     go_wp2_with fail
     go_ret
     refine ⟨_, rfl, ?_⟩
     rw [HH.out.1, HH.out.2.1]
     rw [HH.out.2.2] at H
     exact (node_shut (((((((H.pull 2 rfl).pull 6 rfl).pull 6 rfl).pull 4 rfl).pull 6 rfl).pull 6 rfl).maskR [true, true, true, true, true, true, false])).pull 1 rfl
    | true =>
     have HPM := Lib.hid (pops_more HB.out.symm)
     cases hlast : X.1.s.last with
     | false =>
      have hpl := Lib.hid (PktD.cells_length X.2.p)
      have hpk := Lib.hid (packOf_length X.2.p)
      have hpp := Lib.hid (Wt.part_p X.2)
      have HL := Lib.hid hlast
      have hcell : X.1.cells[0]? = some (.bool false) := by rw [wt_last, hlast]
      have HC := Lib.hid hcell
      clear hlast hcell
      obtain ⟨xs, hfit, H⟩ := out_open (H.pull 2 rfl)
      have HF := Lib.hid hfit
      clear hfit
      go_wp2_with ((with_reducible refine wpList_op rfl ?_); intro _ hK; (refine dst_is 45 rfl ?_; refine wp_get 4 _ rfl rfl (by kernel_rfl) (at_raw H 2 rfl (j := 0) HC.out) (hK _ _ (Stop.go ?_))))
      refine Stop.un ?_
      go_wp2_with fail
      refine wpM_begin [] ((fun w => At w0 (raw W X.1.cells.toArray 91 :: F) w)) [(0, 2), (1, 2), (2, 2), (3, 1), (4, 2), (5, 1), (6, 0), (7, 2), (8, 0), (9, 0), (10, 0)] rfl (by kernel_rfl) (by kernel_rfl) ((H.drew.maskR [false, false, true, false, false, false, false, false])) ?_
      intro ops hOps hS
      replace H := H.drew
      iterate 3 refine fm hOps ?_
      refine tm hOps hS (fun w hw => at_raw hw 0 rfl (wt_next X)) ?_
      refine fm hOps ?_
      refine wpM_take hOps hS rfl (fun _ _ _ h => h) (yl_mid rfl 89 _ rfl (b := W) (off := 40) rfl X.1.p.cells (by kernel_rfl) (by rw [hpl.out]; exact size_pkt) (fun w hw => at_part hw 0 rfl (by rw [hpl.out]; exact hpp.out))) ?_
      simp only [nrm]
      refine wpM_next hOps rfl rfl ?_
      intro K hK
      refine wp_call _ _ _ rfl Tryz.func42 rfl (by kernel_rfl) ?_
      simp only [List.map_toArray, List.map_cons, List.map_nil, Act.eval, Array.getD_eq_getD_getElem?, List.getElem?_toArray, List.getElem?_cons_zero, List.getElem?_cons_succ, Option.getD_some]
      refine (pack_c H X.2.p).mono ?_; rintro e w' ⟨za, zq, rfl, H⟩
      rw [hpk.out] at H ⊢
      have hS := ((H.maskR [false, false, false, true, false, false, false, false, false]))
      refine hK _ _ (.inr hS) ?_
      clear hK K
      simp only [nrm]
      refine wpM_free hOps rfl (fun _ _ _ h => h) (yl_build rfl 66 _ rfl (by rw [Array.toList_map]; rfl) (built_out (X.1.s.next, za, 614, zq))) ?_
      simp only [nrm]
      refine wpM_next hOps rfl rfl ?_
      intro K hK
      refine wp_lbuild el_out (y := (X.1.s.next, za, 614, zq)) _ under_outs _ rfl rfl rfl (by omega) (by omega) H (fun C w' H => ?_)
      have hS := ((H.maskR [false, false, false, false, true, false, false, false, false, false]))
      refine hK _ _ (.inr hS) ?_
      clear hK K
      simp only [nrm]
      refine wpM_next hOps rfl rfl ?_
      intro K hK
      refine wp_lapp_one el_out (xs := xs) (y := (X.1.s.next, za, 614, zq)) _ under_outs _ _ rfl rfl (H.pull 2 rfl) rfl 0 rfl rfl (by rw [HF.out.len]; have := HAL.out; have := HK.out; have := HI4.out; simp only [maxLen]; omega) (by rw [HF.out.len]; have := HAL.out; have := HK.out; have := HI4.out; omega) (fun bb cc w' H => ?_)
      have hS := ((H.maskR [false, false, false, false, true, false, false, false, false, false]))
      refine hK _ _ (.inr hS) ?_
      clear hK K
      simp only [nrm]
      refine wpM_next hOps rfl rfl ?_
      intro K hK
      refine wp_run rfl ?_
      have hS := (hS)
      refine hK _ _ (.inr hS) ?_
      clear hK K
      simp only [nrm]
      refine wpM_end ?_
      clear hOps hS ops
      have hpop : S.pop now = { S with hp := R } := by
       rw [NodeD.pop, ← HX.out, if_neg (by rw [HL.out]; simp), ← HR.out]
      have hpo : S.popO now = [(X.1.s.next, packOf X.1.p)] := by
       rw [NodeD.popO, ← HX.out, if_neg (by rw [HL.out]; simp)]
      have HPOP := Lib.hid (And.intro hpop hpo)
      have hok2 := Lib.hid (NodeD.pop_ok HOK.out now)
      clear hpop hpo
      go_wp2_with fail
      go_roundw
      case rel =>
       refine ⟨S.pop now, acc ++ S.popO now, k + 1, hok2.out, ?_, ?_, HTS.out.trans HPM.out.1, by rw [HTO.out, HPM.out.2.1, List.append_assoc], ?_⟩
       · rw [HPOP.out.2]; simp; exact HAL.out
       · have := HPM.out.2.2; have := HK.out; omega
       · rw [HPOP.out.1, HPOP.out.2]
         have H1 := ((H.maskR [true, false, true, true, false, true, true, true, true, true]).pull 1 rfl).pull 2 rfl
         have H2 := ((((H1.bag_add.pull 2 rfl).pull 4 rfl).pull 4 rfl).pull 3 rfl).pull 4 rfl
         exact out_shut (fit_add (x := (X.1.s.next, za, 614, zq)) (y := (X.1.s.next, packOf X.1.p)) HF.out rfl hpk.out.symm) (by rw [List.zipWith_append HF.out.len]; exact H2)
      case measure =>
       have := HPM.out.2.2
       rw [waitW_at (H.pull 5 rfl), HWT.out]
       rw [HPOP.out.1] at this
       simp only at this
       omega
     | true =>
      have hbl := Lib.hid (show (v8 X.1.p.body).length = 256 by rw [v8_length, X.2.p.body])
      have hbd := Lib.hid (wt_body X)
      have HL := Lib.hid hlast
      have hcell : X.1.cells[0]? = some (.bool true) := by rw [wt_last, hlast]
      have HC := Lib.hid hcell
      obtain ⟨k2, hk2⟩ : ∃ k2, k2 = X.1.s.box := ⟨_, rfl⟩
      have hbox : X.1.cells[2]? = some (.int .u16 (k2 : Int)) := by rw [wt_box, hk2]
      have HBX := Lib.hid hbox
      have hk3 := Lib.hid (show k2 < 65536 by rw [hk2]; exact X.2.s.box)
      have hput : ∀ (F' : List SP) (w' : World), At w0 (Mb.mail mb (mailU S.mail) :: F') w' → Calls Tryz.prog 43 #[.pointer (some ⟨mb, 0, none⟩), .int .u16 (k2 : Int), .agg (v8 X.1.p.body).toArray] w' fun e w2 => e = .returned (.int .i64 (S.boxE k2 : Int)) ∧ At w0 (Mb.mail mb (if S.boxE k2 = 0 then mailU (S.mail.set k2 (S.mail.getD k2 [] ++ [X.1.p.body])) else mailU S.mail) :: F') w2 := fun F' w' H => by
       have h := Mb.put_c H (mailOK_of HOK.out) (k2 : Int) (by omega) (by have := hk3.out; omega) (toU X.1.p.body) (by rw [toU, List.length_map, X.2.p.body])
       rw [bv_toU, Int.toNat_natCast, boxE_eq, putL_eq] at h
       exact h
      have HPUT := Lib.hid hput
      have hpop : S.pop now = NodeD.put { S with hp := R } k2 X.1.p.body := by
       rw [NodeD.pop, ← HX.out, if_pos HL.out, ← HR.out, hk2]
      have hpo : S.popO now = [] := by
       rw [NodeD.popO, ← HX.out, if_pos HL.out]
      have hb1 : NodeD.boxE { S with hp := R } k2 = S.boxE k2 := rfl
      have HPOP := Lib.hid (And.intro hpop hpo)
      have hok2 := Lib.hid (NodeD.pop_ok HOK.out now)
      have hRl := Lib.hid (show R.length + 1 = S.hp.length by rw [HR.out]; exact NodeD.popB_len HB.out.symm)
      obtain ⟨e9, he9⟩ : ∃ e9, e9 = S.boxE k2 := ⟨_, rfl⟩
      rw [← he9] at hput HPUT
      have HE9 := Lib.hid he9
      clear hlast hcell hk2 hbox hput hpop hpo hb1 he9
      go_wp2_with ((with_reducible refine wpList_op rfl ?_); intro _ hK; (refine dst_is 45 rfl ?_; refine wp_get 4 _ rfl rfl (by kernel_rfl) (at_raw H 0 rfl (j := 0) HC.out) (hK _ _ (Stop.go ?_))))
      refine Stop.un ?_
      go_wp2_with fail
      refine wpM_begin [] ((fun w => At w0 (raw W X.1.cells.toArray 91 :: raw p (nodeC S cb hb tb mb).toArray 96 :: F) w)) [(0, 2), (1, 2), (2, 2), (3, 1), (4, 2), (5, 2), (6, 1), (7, 2), (8, 2), (9, 1), (10, 0), (11, 0)] rfl (by kernel_rfl) (by kernel_rfl) ((H.drew.maskR [true, false, false, true, false, false, false])) ?_
      intro ops hOps hS
      replace H := H.drew
      iterate 3 refine fm hOps ?_
      refine tm hOps hS (fun w hw => at_raw hw 1 rfl (j := 6) rfl) ?_
      iterate 2 refine fm hOps ?_
      refine tm hOps hS (fun w hw => at_raw hw 0 rfl HBX.out) ?_
      iterate 2 refine fm hOps ?_
      refine wpM_take hOps hS rfl (fun _ _ _ h => h) (yl_mid rfl 87 _ rfl (b := W) (off := 394) rfl (v8 X.1.p.body) (by kernel_rfl) (by rw [hbl.out]; exact size_a256) (fun w hw => at_part hw 0 rfl (by rw [hbl.out]; exact hbd.out))) ?_
      simp only [nrm]
      refine wpM_next hOps rfl rfl ?_
      intro K hK
      refine wp_call _ _ _ rfl Tryz.func43 rfl (by kernel_rfl) ?_
      simp only [List.map_toArray, List.map_cons, List.map_nil, Act.eval, Array.getD_eq_getD_getElem?, List.getElem?_toArray, List.getElem?_cons_zero, List.getElem?_cons_succ, Option.getD_some]
      refine (HPUT.out _ _ (H.pull 6 rfl)).mono ?_; rintro e w' ⟨rfl, H⟩
      have hS := ((H.maskR [false, true, false, false, true, false, false]))
      refine hK _ _ (.inr hS) ?_
      clear hK K
      simp only [nrm]
      refine wpM_next hOps rfl rfl ?_
      intro K hK
      refine wp_run rfl ?_
      have hS := (hS)
      refine hK _ _ (.inr hS) ?_
      clear hK K
      simp only [nrm]
      refine wpM_end ?_
      clear hOps hS ops
      replace H := (((H.pull 6 rfl).pull 3 rfl).pull 6 rfl).pull 6 rfl
      have HLE := Lib.hid (show e9 < 13 by rw [HE9.out]; exact boxE_lt S k2)
      by_cases h9 : e9 = 0
      · have hput2 : NodeD.put { S with hp := R } k2 X.1.p.body = { S with hp := R, mail := S.mail.set k2 (S.mail.getD k2 [] ++ [X.1.p.body]) } := by
          unfold NodeD.put
          rw [if_pos (show NodeD.boxE { S with hp := R } k2 = 0 from HE9.out.symm.trans h9)]
        have HPU := Lib.hid (HPOP.out.1.trans hput2)
        rw [if_pos h9] at H
        subst h9
        clear hput2
        go_wp2_with fail
        go_roundw
        case rel =>
         refine ⟨S.pop now, acc ++ S.popO now, k + 1, hok2.out, ?_, ?_, HTS.out.trans HPM.out.1, by rw [HTO.out, HPM.out.2.1, List.append_assoc], ?_⟩
         · rw [HPOP.out.2]; simp; have := HAL.out; omega
         · have := HPM.out.2.2; have := HK.out; omega
         · rw [HPU.out, HPOP.out.2, List.append_nil]
           exact (H.pull 6 rfl).maskR [true, true, true, true, true, true, false]
        case measure => rw [waitW_at (H.pull 2 rfl), HWT.out]; have := hRl.out; omega
      · have hput2 : NodeD.put { S with hp := R } k2 X.1.p.body = NodeD.drop { S with hp := R } e9 := by
          unfold NodeD.put
          rw [if_neg (show ¬ NodeD.boxE { S with hp := R } k2 = 0 from fun h => h9 (HE9.out.trans h))]
          rw [show NodeD.boxE { S with hp := R } k2 = e9 from HE9.out.symm]
        have HPU := Lib.hid (HPOP.out.1.trans hput2)
        rw [if_neg h9] at H
        have b1 : ((e9 : Int) != 0) = true := by simp; omega
        clear hput2 h9
        go_wp2_with fail
        refine (ndropO_c (s := { S with hp := R }) H HOK.out.dlen HLE.out HOK.out.drops (by have := HM.out; have := HK.out; have := HI4.out; omega)).mono ?_; rintro e w' ⟨rfl, H⟩
        go_wp2_with fail
        go_roundw
        case rel =>
         refine ⟨S.pop now, acc ++ S.popO now, k + 1, hok2.out, ?_, ?_, HTS.out.trans HPM.out.1, by rw [HTO.out, HPM.out.2.1, List.append_assoc], ?_⟩
         · rw [HPOP.out.2]; simp; have := HAL.out; omega
         · have := HPM.out.2.2; have := HK.out; omega
         · rw [HPU.out, HPOP.out.2, List.append_nil]
           exact (H.pull 6 rfl).maskR [true, true, true, true, true, true, false]
        case measure => rw [waitW_at (H.pull 2 rfl), HWT.out]; have := hRl.out; omega
end
end Go.Proofs.YtmflbekabkainaaGreatDoor
