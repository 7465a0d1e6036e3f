import Derived.Test.YtmflbekabkainaaGreatDoorQNFew
set_option linter.unusedVariables false
set_option linter.unusedSimpArgs false
namespace Go.Hg
open Go.RowKit
def oN : OpD := ⟨0, 0, 9999, 0, 0, 5, 5, 0, 0, false, 0, 0, 0, 0, .slice none 0 0⟩
theorem oN_ok : oN.ok := ⟨by simp [oN], by simp [oN], by simp [oN], by simp [oN], by simp [oN], by simp [oN], by simp [oN], by simp [oN], by simp [oN], by simp [oN], _, _, _, rfl⟩
theorem oN_none {S : NodeD} (h : mlook S.cl 9999 = none) : S.takeE (oN.built 50) 50 = 10 := by
 obtain ⟨x, P⟩ := OpD.peeled oN_ok (now := 50) (by omega)
 have hl := OpD.built_length oN_ok (now := 50) (by omega)
 have hu : unpackOf (oN.built 50) = oN.pkt 50 := by rw [OpD.built_plain oN_ok (by omega) rfl, unpack_pack (OpD.pkt_ok oN_ok (by omega))]
 have hw : (oN.pkt 50).who = 9999 := P.who
 have ho : S.openE (oN.pkt 50) 50 = 10 := by
  unfold NodeD.openE
  rw [hw, if_pos h]
 unfold NodeD.takeE
 rw [hl, hu, ho]
 rfl
def whos (S : NodeD) : List Nat := S.cl.map (·.1)
theorem mlook_iff {α β : Type} [DecidableEq α] {l : List (α × β)} {x : α} : mlook l x = none ↔ x ∉ l.map (·.1) :=
 ⟨fun h hm => absurd (mlook_some_iff.2 hm) (by rw [h]; simp), mlook_none⟩
theorem client_in {S : NodeD} {who : Nat} (key : Bytes) (h : who ∈ whos S) : (S.client who key).2 = 0 ∧ whos (S.client who key).1 = whos S := by
 unfold NodeD.client
 rw [if_neg (fun c => (mlook_iff.1 c.1) h)]
 refine ⟨rfl, ?_⟩
 show (upd S.cl who key).map (·.1) = S.cl.map (·.1)
 unfold upd
 rw [if_pos (show who ∈ S.cl.map (·.1) from h), List.map_map]
 refine List.map_congr_left fun p _ => ?_
 show (if p.1 = who then (who, key) else p).1 = p.1
 split
 · rename_i e; exact e.symm
 · rfl
theorem client_out {S : NodeD} {who : Nat} (key : Bytes) (h : who ∉ whos S) (hl : (whos S).length < 16) : (S.client who key).2 = 0 ∧ whos (S.client who key).1 = whos S ++ [who] := by
 unfold NodeD.client
 have h2 : S.cl.length < 16 := by simpa [whos] using hl
 rw [if_neg (fun c => by omega)]
 refine ⟨rfl, ?_⟩
 show (upd S.cl who key).map (·.1) = S.cl.map (·.1) ++ [who]
 unfold upd
 rw [if_neg (show who ∉ S.cl.map (·.1) from h), List.map_append]
 rfl
theorem client_full {S : NodeD} {who : Nat} (key : Bytes) (h : who ∉ whos S) (hl : 16 ≤ (whos S).length) : (S.client who key).2 = 8 ∧ whos (S.client who key).1 = whos S := by
 unfold NodeD.client
 have h2 : 16 ≤ S.cl.length := by simpa [whos] using hl
 rw [if_pos ⟨mlook_iff.2 h, h2⟩]
 exact ⟨rfl, rfl⟩
end Go.Hg
namespace Go.Proofs.YtmflbekabkainaaGreatDoor
open Go.ChangeShapes Go.WideShapes Go.ChangeAt Go.RowKit Go.Hg
def cW (x : Nat) : List Value := [.int .u16 (x : Int)]
theorem info_w : (Tryz.prog.info? 27).map (fun i => (i.zero, i.size, i.bytes)) = some (some (.int .u16 0), 1, 2) := by kernel_rfl
theorem el_w : El Tryz.prog 27 1 2 cW := ⟨⟨_, info_w, rfl⟩, fun _ => rfl, fun x u hu => by simp [cW] at hu; subst hu; rfl⟩
theorem under_u16s : Tryz.prog.underlying 79 = some (.slice 27) := by kernel_rfl
set_option maxRecDepth 20000 in
set_option maxHeartbeats 4000000 in
theorem nodeClients_c {w0 w : World} {F : List SP} (G : Glob w0) (H : At w0 F w) {a : Option Addr} {len cap : Nat} (h : IntRow .u16 w0 a len) :
    Calls Tryz.prog 9 #[.slice a len cap] w fun e w' => e = .returned (.bool true) ∧ At w0 F w' := by
 obtain ⟨hlen, b, off, hrow⟩ := h
 obtain ⟨s0, hs0⟩ : ∃ s, s = NodeD.fresh 1 3 9 1 := ⟨_, rfl⟩
 have HS0 := Lib.hid (show NodeD.fresh 1 3 9 1 = s0 from hs0.symm)
 have hok0 : s0.ok 0 0 := by rw [hs0]; exact NodeD.fresh_ok (by omega) 3 9 1
 have hw0 : whos s0 = [] := by rw [hs0]; rfl
 clear hs0
 go_enter Tryz.func9, Tryz.ntmps9
 go_wp2_with fail
 refine (lshown_c G H).mono ?_; rintro e w' ⟨rfl, H⟩
 go_wp2_with fail
 refine (nnew_c H (addr := 1) (by omega) 3 9 1).mono ?_; rintro e w' ⟨p, mb, rfl, H⟩
 rw [HS0.out] at H
 go_wp2_with fail
 go_loopw [5, 6] (fun l i wr => ∃ (j q : Nat) (A : Option Addr) (S : NodeD), j ≤ 30 ∧ i = .int .i64 j ∧ l = .slice A (whos S).length q ∧ (whos S).length ≤ 16 ∧ S.ok 0 0 ∧ At w0 (nodeo p mb S :: lrow 27 1 cW (.slice A (whos S).length q) (whos S) :: F) wr) (fun _ i _ => 30 - (intOf i).toNat)
 case atStart => exact ⟨0, 0, none, s0, by omega, rfl, by rw [hw0]; rfl, by rw [hw0]; simp, hok0, by rw [hw0]; exact (lrow_nil H cW 27 1).pull 1 rfl⟩
 case round =>
  clear H
  obtain ⟨j, q, A, S, hj, rfl, rfl, h16, hok, H⟩ := hrel
  obtain ⟨O, hO⟩ : ∃ O, O = whos S := ⟨_, rfl⟩
  rw [← hO] at h16 H
  have HO := Lib.hid hO
  have HOK := Lib.hid hok
  have H16 := Lib.hid h16
  by_cases g1 : (j : Int) < len
  · by_cases g2 : (j : Int) < 30
    · obtain ⟨rfl, x, hx, hxw⟩ := hrow j (by omega)
      have hx3 := bounds_u16 hxw
      obtain ⟨X, rfl⟩ : ∃ X : Nat, x = (X : Int) := ⟨x.toNat, by omega⟩
      have HX := Lib.hid (show X < 65536 by omega)
      have HCX := Lib.hid (fun (L : List SP) (w : World) (hw : At w0 L w) => (show w.cell? ⟨b, off + j, none⟩ = some (.int .u16 (X : Int)) from (hw.below.cell (World.block_lt_of_cell? w0 _ hx)).trans hx))
      have HJ := Lib.hid (show j < 30 by omega)
      have e1 : IntKind.u8.wrap (j : Int) = (j : Int) := by rw [IntKind.wrap_u8]; omega
      rw [← hO]
      have HK := Lib.hid (fun (L : List SP) (w : World) (hw : At w0 L w) => lkey_c hw (k := j) (by omega))
      have HC := Lib.hid (fun (L : List SP) (w : World) (hw : At w0 (nodeo p mb S :: L) w) => nclient_c hw hok (who := X) (by omega) (keyN_length j))
      have HROW := Lib.hid hrow
      obtain ⟨ky, hky⟩ : ∃ ky, ky = keyN j := ⟨_, rfl⟩
      rw [← hky] at HK HC
      obtain ⟨E, hE⟩ : ∃ E, E = (S.client X ky).2 := ⟨_, rfl⟩
      obtain ⟨T, hT⟩ : ∃ T, T = (S.client X ky).1 := ⟨_, rfl⟩
      have hTok := NodeD.client_ok hok X (by rw [hky]; exact keyN_length j : ky.length = 32)
      rw [← hE, ← hT] at HC
      rw [← hT] at hTok
      have HTOK := Lib.hid hTok
      have HIN := Lib.hid (fun h => by have := client_in (S := S) (who := X) ky h; rwa [← hE, ← hT, ← hO] at this : X ∈ whos S → E = 0 ∧ whos T = O)
      have HOUT := Lib.hid (fun h1 h2 => by have := client_out (S := S) (who := X) ky h1 h2; rwa [← hE, ← hT, ← hO] at this : X ∉ whos S → (whos S).length < 16 → E = 0 ∧ whos T = O ++ [X])
      have HFULL := Lib.hid (fun h1 h2 => by have := client_full (S := S) (who := X) ky h1 h2; rwa [← hE, ← hT, ← hO] at this : X ∉ whos S → 16 ≤ (whos S).length → E = 8 ∧ whos T = O)
      rw [← hO] at HIN HOUT HFULL
      clear hx hxw hx3 hrow hky hE hT hTok hok hO h16
      go_wp2_with fail
      go_loopw [7, 8] (fun kn k wr => ∃ i : Nat, i ≤ O.length ∧ k = .int .i64 i ∧ kn = .bool (decide (X ∈ O.take i)) ∧ At w0 (nodeo p mb S :: lrow 27 1 cW (.slice A O.length q) O :: F) wr) (fun _ k _ => O.length - (intOf k).toNat)
      case atStart => exact ⟨0, by omega, rfl, by simp, H⟩
      case round =>
       clear H
       obtain ⟨i, hi, rfl, rfl, H⟩ := hrel
       by_cases hi1 : i < O.length
       · have b1 : (i : Int) < (O.length : Int) := by omega
         obtain ⟨g, f, rfl⟩ := lrow_place H 1 rfl (by omega)
         obtain ⟨y, hy⟩ : ∃ y, O[i]? = some y := ⟨_, List.getElem?_eq_getElem hi1⟩
         have HCO := Lib.hid (fun (w : World) (hw : At w0 (nodeo p mb S :: lrow 27 1 cW (.slice (some ⟨g, f, none⟩) O.length q) O :: F) w) => (show w.cell? ⟨g, f + i, none⟩ = some (.int .u16 (y : Int)) by
          have h := lrow_cell el_w (i := i) (j := 0) hw 1 rfl hy rfl
          simpa using h))
         have htk : O.take (i + 1) = O.take i ++ [y] := by rw [List.take_add_one, hy]; rfl
         have HI := Lib.hid (show i < O.length from hi1)
         have hol := H16.out
         have e2 : IntKind.i64.wrap ((i : Int) + 1) = ((i + 1 : Nat) : Int) := by rw [IntKind.wrap_i64]; omega
         by_cases hm : X ∈ O.take i
         · have hn : decide (X ∈ O.take (i + 1)) = true := decide_eq_true (by rw [htk]; simp [hm])
           have HN := Lib.hid hn
           rw [decide_eq_true hm]
           clear hm htk hy hi hi1 hol hn
           go_wp2_with fail
           refine wpS_begin [] (nodeo p mb S :: lrow 27 1 cW (.slice (some ⟨g, f, none⟩) O.length q) O :: F) (.fr 0 (.fr 1 (.fr 2 (.fr 3 (.fr 4 (.fr 5 (.fr 6 (.fr 7 (.fr 8 (.fr 9 (.fr 10 (.fr 11 (.nx 12 .nil))))))))))))) rfl (by kernel_rfl) (by kernel_rfl) H ?_
           clear H
           intro ops hOps
           iterate 2 refine fs hOps ?_
           iterate 9 refine fn hOps ?_
           refine fs hOps ?_
           refine wpS_next hOps rfl rfl ?_
           intro w H K hK
           refine wp_run rfl ?_
           refine hK _ _ _ (.inr (.inl (Imp.refl _))) H ?_
           clear hK K H
           try simp only [nrm]
           refine wpS_end (fun w H => ?_)
           clear hOps ops
           go_wp2_with fail
           first
            | (refine ⟨?_, ?measure⟩; iterate 220 (try apply Exists.intro); refine ⟨?rel, rfl⟩)
            | refine ⟨?rel, ?measure⟩
           case rel => exact ⟨i + 1, by have := HI.out; omega, by go_num, by rw [HN.out], H⟩
           case measure => have := HI.out; simp [intOf]; omega
         · have hn : decide (X ∈ O.take (i + 1)) = ((y : Int) == (X : Int)) := by
             rw [htk]
             by_cases hyx : X = y
             · subst hyx; simp
             · have : ¬ ((y : Int) = (X : Int)) := by omega
               simp [hm, hyx, this]
           have HN := Lib.hid hn
           rw [decide_eq_false hm]
           obtain ⟨kn, hkn⟩ : ∃ kn, kn = ((y : Int) == (X : Int)) := ⟨_, rfl⟩
           have hkn2 : ((y : Int) == (X : Int)) = kn := hkn.symm
           rw [← hkn] at HN
           clear hm htk hy hi hi1 hol hn hkn
           go_wp2_with fail
           refine wpS_begin [] (nodeo p mb S :: lrow 27 1 cW (.slice (some ⟨g, f, none⟩) O.length q) O :: F) (.fr 0 (.fr 1 (.fr 2 (.fr 3 (.fr 4 (.tk 5 (.fr 6 (.fr 7 (.fr 8 (.tk 9 (.fr 10 (.fr 11 (.nx 12 .nil))))))))))))) rfl (by kernel_rfl) (by kernel_rfl) H ?_
           clear H
           intro ops hOps
           iterate 5 refine fs hOps ?_
           refine ts hOps (fun w hw => HCO.out _ hw) ?_
           iterate 3 refine fs hOps ?_
           refine ts hOps (fun w hw => HCX.out _ _ hw) ?_
           iterate 2 refine fs hOps ?_
           refine wpS_next hOps rfl rfl ?_
           intro w H K hK
           refine wp_run rfl ?_
           refine hK _ _ _ (.inr (.inl (Imp.refl _))) H ?_
           clear hK K H
           try simp only [nrm]
           refine wpS_end (fun w H => ?_)
           clear hOps ops
           go_wp2_with fail
           first
            | (refine ⟨?_, ?measure⟩; iterate 220 (try apply Exists.intro); refine ⟨?rel, rfl⟩)
            | refine ⟨?rel, ?measure⟩
           case rel => exact ⟨i + 1, by have := HI.out; omega, by go_num, by rw [HN.out], H⟩
           case measure => have := HI.out; simp [intOf]; omega
       · have b1 : ¬ (i : Int) < (O.length : Int) := by omega
         have hall : O.take i = O := List.take_of_length_le (by omega)
         rw [hall]
         obtain ⟨K, hK0⟩ : ∃ K, K = decide (X ∈ O) := ⟨_, rfl⟩
         rw [← hK0]
         have HKN := Lib.hid hK0
         clear hi1 hi hall hK0
         go_wp2_with fail
         refine wpS_begin [] (F) (.fr 0 (.fr 1 (.fr 2 (.fr 3 (.tk 4 (.fr 5 (.fr 6 (.fr 7 (.nx 8 (.nx 9 .nil)))))))))) rfl (by kernel_rfl) (by kernel_rfl) H ?_
         clear H
         intro ops hOps
         iterate 4 refine fs hOps ?_
         refine ts hOps (fun w hw => HCX.out _ _ hw) ?_
         iterate 2 refine fs hOps ?_
         refine wpS_fcall hOps (v := ?vOp103) rfl (fun _ _ _ h => h) (GY.call rfl _ _ _ rfl Tryz.func16 rfl (by kernel_rfl) ?yOp103) ?_
         case yOp103 =>
          intro L w f H
          simp only [List.map_toArray, List.map_cons, List.map_nil, nrm]
          exact HK.out _ _ H
         simp only [nrm]
         refine wpS_next hOps rfl rfl ?_
         intro w H K hK
         refine wp_call _ _ _ rfl Tryz.func17 rfl (by kernel_rfl) ?_
         simp only [List.map_toArray, List.map_cons, List.map_nil, nrm]
         refine (HC.out _ _ H).mono ?_; rintro e w' ⟨rfl, H⟩
         refine hK _ _ _ (.inr (.inr pk)) H ?_
         clear hK K H
         try simp only [nrm]
         refine wpS_next hOps rfl rfl ?_
         intro w H K hK
         refine wp_run rfl ?_
         refine hK _ _ _ (.inr (.inl (Imp.refl _))) H ?_
         clear hK K H
         try simp only [nrm]
         refine wpS_end (fun w H => ?_)
         clear hOps ops
         by_cases hm : X ∈ O
         · obtain ⟨rfl, hT⟩ := HIN.out hm
           obtain rfl : K = true := by rw [HKN.out]; exact decide_eq_true hm
           have HT := Lib.hid hT
           clear hm hT
           go_wp2_with fail
           first
            | (refine ⟨?_, ?measure⟩; iterate 220 (try apply Exists.intro); refine ⟨?rel, rfl⟩)
            | refine ⟨?rel, ?measure⟩
           case rel => exact ⟨j + 1, q, A, T, by have := HJ.out; omega, by go_num, by rw [HT.out], by rw [HT.out]; exact H16.out, HTOK.out, by rw [HT.out]; exact H⟩
           case measure => have := HJ.out; simp [intOf]; omega
         · obtain rfl : K = false := by rw [HKN.out]; exact decide_eq_false hm
           by_cases h16 : O.length < 16
           · obtain ⟨rfl, hT⟩ := HOUT.out hm h16
             have HT := Lib.hid hT
             have b2 : (O.length : Int) < 16 := by omega
             have HL := Lib.hid h16
             clear hm hT h16
             go_wp2_with ((with_reducible refine wpList_op rfl ?_); intro _ hK; first
              | (refine dst_is 81 rfl ?_; refine wp_get 27 _ rfl rfl (by kernel_rfl) (HCX.out _ _ H) (hK _ _ ?_))
              | (refine dst_is 82 rfl ?_; refine wp_lbuild el_w (y := X) 79 under_u16s _ rfl rfl rfl (by omega) (by omega) H (fun C w' (H : At w0 (raw C (cW X).toArray 27 :: nodeo p mb T :: lrow 27 1 cW (.slice A O.length q) O :: F) w') => hK _ _ ?_))
              | (refine dst_is 83 rfl ?_; refine wp_lapp_one el_w (xs := O) (y := X) 79 under_u16s _ _ rfl rfl (H.pull 2 rfl) rfl 0 rfl rfl (by have := HL.out; simp [maxLen]; omega) (by have := HL.out; omega) (fun A2 q2 w' H => hK _ _ (Stop.go ?_))))
             refine Stop.un ?_
             replace H : At w0 (nodeo p mb T :: lrow 27 1 cW (.slice A2 (O ++ [X]).length q2) (O ++ [X]) :: F) w' := (H.pull 2 rfl).maskR [true, true, false]
             go_wp2_with fail
             first
              | (refine ⟨?_, ?measure⟩; iterate 220 (try apply Exists.intro); refine ⟨?rel, rfl⟩)
              | refine ⟨?rel, ?measure⟩
             case rel => exact ⟨j + 1, q2, A2, T, by have := HJ.out; omega, by go_num, by rw [HT.out]; simp, by rw [HT.out, List.length_append]; have := HL.out; simp; omega, HTOK.out, by rw [HT.out]; exact H⟩
             case measure => have := HJ.out; simp [intOf]; omega
           · obtain ⟨rfl, hT⟩ := HFULL.out hm (by omega)
             have HT := Lib.hid hT
             have b2 : ¬ (O.length : Int) < 16 := by omega
             clear hm hT h16
             go_wp2_with fail
             first
              | (refine ⟨?_, ?measure⟩; iterate 220 (try apply Exists.intro); refine ⟨?rel, rfl⟩)
              | refine ⟨?rel, ?measure⟩
             case rel => exact ⟨j + 1, q, A, T, by have := HJ.out; omega, by go_num, by rw [HT.out], by rw [HT.out]; exact H16.out, HTOK.out, by rw [HT.out]; exact H⟩
             case measure => have := HJ.out; simp [intOf]; omega
    · rw [← hO]
      clear hrow hO hok h16
      have HB := Lib.hid (fun (F : List SP) (w : World) (H : At w0 F w) =>
       show Calls Tryz.prog 27 #[.agg oN.cells.toArray, .int .u64 50] w fun e w' => ∃ v, e = .returned v ∧ At w0 (byt 5 v (oN.built 50) :: F) w' from lbuilt_c H oN_ok (now := 50) (by omega))
      obtain ⟨B, hB⟩ : ∃ B, B = oN.built 50 := ⟨_, rfl⟩
      have hT := fun (F : List SP) (w : World) (v : Value) (H : At w0 (nodeo p mb S :: F) w) (hv : SeeB w0 (nodeo p mb S :: F) v (oN.built 50)) => nTake_c G H HOK.out (by omega) (by omega) hv (now := 50) (by omega)
      have hne : 9999 ∉ O → S.takeE (oN.built 50) 50 = 10 := fun h => oN_none (mlook_iff.2 (by rw [HO.out] at h; exact h))
      obtain ⟨E, hE⟩ : ∃ E, E = S.takeE (oN.built 50) 50 := ⟨_, rfl⟩
      rw [← hE] at hne
      simp only [← hE] at hT
      rw [← hB] at hT HB
      have HT := Lib.hid hT
      have HNE := Lib.hid hne
      clear hB hT hne hE
      go_wp2_with fail
      refine (HB.out _ _ H).mono ?_; rintro e w' ⟨v, rfl, H⟩
      replace H := H.pull 1 rfl
      go_wp2_with fail
      refine (HT.out _ _ _ H (see_byt 1 rfl _ H)).mono ?_; rintro e w' ⟨rfl, H⟩
      replace H : At w0 (lrow 27 1 cW (.slice A O.length q) O :: F) w' := H.maskR [false, false, true]
      go_wp2_with fail
      go_loopw [11, 12] (fun kn k wr => ∃ i : Nat, i ≤ O.length ∧ k = .int .i64 i ∧ kn = .bool (decide (9999 ∈ O.take i)) ∧ At w0 (lrow 27 1 cW (.slice A O.length q) O :: F) wr) (fun _ k _ => O.length - (intOf k).toNat)
      case atStart => exact ⟨0, by omega, rfl, by simp, H⟩
      case round =>
       clear H
       obtain ⟨i, hi, rfl, rfl, H⟩ := hrel
       by_cases hi1 : i < O.length
       · have b1 : (i : Int) < (O.length : Int) := by omega
         obtain ⟨g, f, rfl⟩ := lrow_place H 0 rfl (by omega)
         obtain ⟨y, hy⟩ : ∃ y, O[i]? = some y := ⟨_, List.getElem?_eq_getElem hi1⟩
         have hco : wr.cell? ⟨g, f + i, none⟩ = some (.int .u16 (y : Int)) := by
          have h := lrow_cell el_w (i := i) (j := 0) H 0 rfl hy rfl
          simpa using h
         have htk : O.take (i + 1) = O.take i ++ [y] := by rw [List.take_add_one, hy]; rfl
         have HI := Lib.hid (show i < O.length from hi1)
         have hol := H16.out
         have e2 : IntKind.i64.wrap ((i : Int) + 1) = ((i + 1 : Nat) : Int) := by rw [IntKind.wrap_i64]; omega
         by_cases hm : 9999 ∈ O.take i
         · have hn : decide (9999 ∈ O.take (i + 1)) = true := decide_eq_true (by rw [htk]; simp [hm])
           have HN := Lib.hid hn
           rw [decide_eq_true hm]
           clear hm htk hy hi hi1 hol hn
           go_wp2_with fail
           first
            | (refine ⟨?_, ?measure⟩; iterate 220 (try apply Exists.intro); refine ⟨?rel, rfl⟩)
            | refine ⟨?rel, ?measure⟩
           case rel => exact ⟨i + 1, by have := HI.out; omega, by go_num, by rw [HN.out], H⟩
           case measure => have := HI.out; simp [intOf]; omega
         · have hn : decide (9999 ∈ O.take (i + 1)) = ((y : Int) == 9999) := by
             rw [htk]
             by_cases hyx : 9999 = y
             · subst hyx; simp
             · have : ¬ ((y : Int) = 9999) := by omega
               simp [hm, hyx, this]
           have HN := Lib.hid hn
           rw [decide_eq_false hm]
           obtain ⟨kn, hkn⟩ : ∃ kn, kn = ((y : Int) == 9999) := ⟨_, rfl⟩
           have hkn2 : ((y : Int) == 9999) = kn := hkn.symm
           rw [← hkn] at HN
           clear hm htk hy hi hi1 hol hn hkn
           go_wp2_with fail
           first
            | (refine ⟨?_, ?measure⟩; iterate 220 (try apply Exists.intro); refine ⟨?rel, rfl⟩)
            | refine ⟨?rel, ?measure⟩
           case rel => exact ⟨i + 1, by have := HI.out; omega, by go_num, by rw [HN.out], H⟩
           case measure => have := HI.out; simp [intOf]; omega
       · have b1 : ¬ (i : Int) < (O.length : Int) := by omega
         have hall : O.take i = O := List.take_of_length_le (by omega)
         rw [hall]
         by_cases hm : 9999 ∈ O
         · rw [decide_eq_true hm]
           clear hi1 hi hall hm
           go_wp2_with fail
           go_ret
           exact ⟨rfl, H.tail⟩
         · rw [decide_eq_false hm]
           obtain rfl : E = 10 := HNE.out hm
           clear hi1 hi hall hm
           go_wp2_with fail
           go_ret
           exact ⟨rfl, H.tail⟩
  · rw [← hO]
    clear hrow hO hok h16
    have HB := Lib.hid (fun (F : List SP) (w : World) (H : At w0 F w) =>
     show Calls Tryz.prog 27 #[.agg oN.cells.toArray, .int .u64 50] w fun e w' => ∃ v, e = .returned v ∧ At w0 (byt 5 v (oN.built 50) :: F) w' from lbuilt_c H oN_ok (now := 50) (by omega))
    obtain ⟨B, hB⟩ : ∃ B, B = oN.built 50 := ⟨_, rfl⟩
    have hT := fun (F : List SP) (w : World) (v : Value) (H : At w0 (nodeo p mb S :: F) w) (hv : SeeB w0 (nodeo p mb S :: F) v (oN.built 50)) => nTake_c G H HOK.out (by omega) (by omega) hv (now := 50) (by omega)
    have hne : 9999 ∉ O → S.takeE (oN.built 50) 50 = 10 := fun h => oN_none (mlook_iff.2 (by rw [HO.out] at h; exact h))
    obtain ⟨E, hE⟩ : ∃ E, E = S.takeE (oN.built 50) 50 := ⟨_, rfl⟩
    rw [← hE] at hne
    simp only [← hE] at hT
    rw [← hB] at hT HB
    have HT := Lib.hid hT
    have HNE := Lib.hid hne
    clear hB hT hne hE
    go_wp2_with fail
    refine (HB.out _ _ H).mono ?_; rintro e w' ⟨v, rfl, H⟩
    replace H := H.pull 1 rfl
    go_wp2_with fail
    refine (HT.out _ _ _ H (see_byt 1 rfl _ H)).mono ?_; rintro e w' ⟨rfl, H⟩
    replace H : At w0 (lrow 27 1 cW (.slice A O.length q) O :: F) w' := H.maskR [false, false, true]
    go_wp2_with fail
    go_loopw [11, 12] (fun kn k wr => ∃ i : Nat, i ≤ O.length ∧ k = .int .i64 i ∧ kn = .bool (decide (9999 ∈ O.take i)) ∧ At w0 (lrow 27 1 cW (.slice A O.length q) O :: F) wr) (fun _ k _ => O.length - (intOf k).toNat)
    case atStart => exact ⟨0, by omega, rfl, by simp, H⟩
    case round =>
     clear H
     obtain ⟨i, hi, rfl, rfl, H⟩ := hrel
     by_cases hi1 : i < O.length
     · have b1 : (i : Int) < (O.length : Int) := by omega
       obtain ⟨g, f, rfl⟩ := lrow_place H 0 rfl (by omega)
       obtain ⟨y, hy⟩ : ∃ y, O[i]? = some y := ⟨_, List.getElem?_eq_getElem hi1⟩
       have hco : wr.cell? ⟨g, f + i, none⟩ = some (.int .u16 (y : Int)) := by
        have h := lrow_cell el_w (i := i) (j := 0) H 0 rfl hy rfl
        simpa using h
       have htk : O.take (i + 1) = O.take i ++ [y] := by rw [List.take_add_one, hy]; rfl
       have HI := Lib.hid (show i < O.length from hi1)
       have hol := H16.out
       have e2 : IntKind.i64.wrap ((i : Int) + 1) = ((i + 1 : Nat) : Int) := by rw [IntKind.wrap_i64]; omega
       by_cases hm : 9999 ∈ O.take i
       · have hn : decide (9999 ∈ O.take (i + 1)) = true := decide_eq_true (by rw [htk]; simp [hm])
         have HN := Lib.hid hn
         rw [decide_eq_true hm]
         clear hm htk hy hi hi1 hol hn
         go_wp2_with fail
         first
          | (refine ⟨?_, ?measure⟩; iterate 220 (try apply Exists.intro); refine ⟨?rel, rfl⟩)
          | refine ⟨?rel, ?measure⟩
         case rel => exact ⟨i + 1, by have := HI.out; omega, by go_num, by rw [HN.out], H⟩
         case measure => have := HI.out; simp [intOf]; omega
       · have hn : decide (9999 ∈ O.take (i + 1)) = ((y : Int) == 9999) := by
           rw [htk]
           by_cases hyx : 9999 = y
           · subst hyx; simp
           · have : ¬ ((y : Int) = 9999) := by omega
             simp [hm, hyx, this]
         have HN := Lib.hid hn
         rw [decide_eq_false hm]
         obtain ⟨kn, hkn⟩ : ∃ kn, kn = ((y : Int) == 9999) := ⟨_, rfl⟩
         have hkn2 : ((y : Int) == 9999) = kn := hkn.symm
         rw [← hkn] at HN
         clear hm htk hy hi hi1 hol hn hkn
         go_wp2_with fail
         first
          | (refine ⟨?_, ?measure⟩; iterate 220 (try apply Exists.intro); refine ⟨?rel, rfl⟩)
          | refine ⟨?rel, ?measure⟩
         case rel => exact ⟨i + 1, by have := HI.out; omega, by go_num, by rw [HN.out], H⟩
         case measure => have := HI.out; simp [intOf]; omega
     · have b1 : ¬ (i : Int) < (O.length : Int) := by omega
       have hall : O.take i = O := List.take_of_length_le (by omega)
       rw [hall]
       by_cases hm : 9999 ∈ O
       · rw [decide_eq_true hm]
         clear hi1 hi hall hm
         go_wp2_with fail
         go_ret
         exact ⟨rfl, H.tail⟩
       · rw [decide_eq_false hm]
         obtain rfl : E = 10 := HNE.out hm
         clear hi1 hi hall hm
         go_wp2_with fail
         go_ret
         exact ⟨rfl, H.tail⟩
theorem nodeClients_walk {W : World} {a : Option Addr} {len cap : Nat} (G : Glob W) (h : IntRow .u16 W a len) :
    Calls Tryz.prog 9 #[.slice a len cap] W fun e w' => e = .returned (.bool true) ∧ Below W.heap.size W w' :=
 (nodeClients_c G (At.start W) h).mono fun _ _ h => ⟨h.1, h.2.below⟩
theorem nodeClients_own : ownKnob Tryz.prog.godebug = none := by kernel_rfl
theorem nodeClients_laidout : laidOutB Tryz.prog = true := by kernel_rfl
set_option maxRecDepth 100000 in
theorem nodeClients_contract (H : Type) (enc : TypeId × Value → H) (W : World) (base : Nat) (args : Array Value) (ds gs : List (DataW H)) (before : List MemPlace)
    (hval : ∀ (j : Nat) t v, Tryz.f9.params[j]? = some t → args[j]? = some v → Value.okWide Tryz.prog W .any base t v)
    (hW : DataW.Whole enc Tryz.prog Tryz.f9.params.toList Rows.nodeClientsSpec.vars false W args.toList ds gs before) (hL : laidMetH Tryz.prog Rows.nodeClientsRow.laid W) :
    Calls Tryz.prog 9 args W fun e W' => ∃ v, e = .returned v ∧ Rows.nodeClientsSpec.post enc Tryz.prog Tryz.f9 false true false false W args v W' := by
 have G : Glob W := glob_of_laid hL
 have hW' := hW
 obtain ⟨p, q, hA0, hV, rfl, hfz, hnd⟩ := hW
 have hA : DataW.TrodAll enc Tryz.prog W 0 (fun _ => true) true Tryz.f9.params.toList args.toList ds p := hA0
 rw [Tryz.params9] at hA hval
 obtain ⟨v0, vs0, d0, ds0, p0, q0, hargs, rfl, rfl, h0, r0⟩ := trodAll_cons hA
 obtain ⟨rfl, rfl, rfl⟩ := trodAll_nil r0
 obtain rfl : args = #[v0] := by cases args; simp_all
 obtain ⟨rfl, rfl⟩ := trodVars_none hV
 have k0 := h0
 have lt0 : ∀ x ∈ p0, x.block < W.heap.size := by obtain ⟨m, hm⟩ := k0; exact DataW.trod_lt m _ _ _ hm
 obtain ⟨a0, len0, cap0, rfl⟩ := okWide_slice Tryz.underlying79 (hval 0 79 v0 rfl rfl)
 have f0 : IntRow .u16 W a0 len0 := by
  obtain ⟨fuel, hf⟩ := h0
  rcases open_ints Tryz.underlying79 Tryz.underlying27 (by kernel_rfl) hf with ⟨hcs, _⟩ | ⟨x, l, c, zs, hcs, _, hl, hm, hz, _, hcell, hwz⟩
  · simp [Value.cells] at hcs
    obtain ⟨rfl, rfl, rfl⟩ := hcs
    exact intRow_of (cap := 0) (zs := []) (.inl ⟨rfl, rfl⟩)
  · simp [Value.cells] at hcs
    obtain ⟨rfl, rfl, rfl⟩ := hcs
    exact intRow_of (.inr ⟨_, rfl, hl, hm, by simpa using hz, hcell, hwz⟩)
 clear hA0
 refine (nodeClients_walk G f0).mono fun e W' ⟨he, bel⟩ => ?_
 subst he
 exact ⟨_, rfl, _, _, _, [], _, [], hW', trodAll_mk1 (shut_bool Tryz.underlying4 _), (trodAll_cons_mk (Below.trod nodeClients_laidout (by kernel_rfl) (of_decide_eq_true (by kernel_rfl)) k0 bel lt0) trodAll_mk0), rfl, bel.frame _, fun h => by cases h⟩
noncomputable def nodeClients_wit : Array Value := #[.slice none 0 0]
theorem nodeClients_met (os : Os) : laidMet Tryz.prog Rows.nodeClientsRow.laid ((laidWorld os).forCall (fun _ _ => 0) ⟨#[], nodeClients_wit, []⟩).memory := laidMet_of_run' 8 (by kernel_rfl) (by kernel_rfl)
set_option maxRecDepth 100000 in
theorem nodeClients_lifted (os : Os) (started : os.Started) (H : Type) (enc : TypeId × Value → H) (F : Stop.Interp) :
    ReturnsInHanded {} Tryz.checked os 9 .any ((OpenSpec.ofChange Rows.nodeClientsSpec).preRow enc Tryz.prog Tryz.f9 Rows.nodeClientsRow.domain false Rows.nodeClientsRow.laid) (((OpenSpec.ofChange Rows.nodeClientsSpec).at F).post enc Tryz.prog Tryz.f9 false true false false) := by
 obtain ⟨x, hx⟩ := Option.isSome_iff_exists.1 (show (DataW.whole enc Tryz.prog ((laidWorld os).forCall (fun _ _ => 0) ⟨#[], nodeClients_wit, []⟩).memory Tryz.f9.params.toList Rows.nodeClientsSpec.vars false nodeClients_wit.toList 8).isSome = true by kernel_rfl)
 refine returnsInHanded_of_row (C := Tryz.checked) (s := OpenSpec.ofChange Rows.nodeClientsSpec) nodeClients_own started (by kernel_rfl) Tryz.func9
  (witness_row_at (enc := enc) (C := Tryz.checked) false (laidWorld os) nodeClients_wit rfl (by kernel_rfl) (by kernel_rfl) (by kernel_rfl)
   (OpenSpec.preRow_of_cond 8 hx (by kernel_rfl) (fun k hk => by cases hk) (by kernel_rfl) (nodeClients_met os))) ?_
 intro W base args ds gs before hval hW _ _ _ hL _ _
 exact nodeClients_contract H enc W base args ds gs before hval hW hL
theorem nodeClients_said : Rows.NodeClientsSaid :=
 OpenClaim.holds_of_cond 9 Tryz.f9 rfl rfl rfl rfl rfl rfl rfl ⟨rfl, rfl, rfl, rfl, rfl⟩ rfl rfl rfl rfl rfl (by kernel_rfl) Tryz.func9 (by kernel_rfl)
  (of_decide_eq_true (by kernel_rfl)) (by unfold Func.isWrapper; first | (rw [if_pos (by decide +kernel)]; kernel_rfl) | (rw [if_neg (by decide +kernel)]; exact ⟨rfl, rfl⟩))
  (fun os started H enc _ F => by rw [OpenClaim.pre_eq_preRow]; exact nodeClients_lifted os started H enc F)
theorem nodeClients_plain (f : FuncId) (fn : Func) (hf : Tryz.pinned.checked.prog.funcNamed "hourglass/hourglasslaw17.NodeClients" = some f) (hfn : Tryz.pinned.checked.prog.funcs[f]? = some fn) :
    false = Tryz.pinned.checked.prog.looks [] ∧ ∀ (j : Nat) t, fn.params[j]? = some t → Tryz.pinned.checked.prog.wantsStandIn t = false := by
 obtain rfl : f = 9 := Option.some.inj ((show Tryz.prog.funcNamed "hourglass/hourglasslaw17.NodeClients" = some 9 by kernel_rfl).symm.trans hf) |>.symm
 obtain rfl : fn = Tryz.f9 := (Option.some.inj (Tryz.func9.symm.trans hfn)).symm
 refine ⟨by kernel_rfl, fun j t ht => ?_⟩
 have hall : ∀ t ∈ Tryz.f9.params, Tryz.prog.wantsStandIn t = false := by
  have h : (Tryz.f9.params.toList.all fun t => !Tryz.prog.wantsStandIn t) = true := by kernel_rfl
  intro t ht
  simpa using List.all_eq_true.1 h t (Array.mem_toList_iff.2 ht)
 exact hall t (Array.mem_of_getElem? ht)
theorem nodeClients_holds : Rows.NodeClientsCardSaid :=
 Claim7.holds_tied_plain_at .later [] _ _ _ _ nodeClients_said (fun _ h => by cases h) (by kernel_rfl) (fun _ h => by cases h) nodeClients_row_tie rfl ⟨rfl, rfl⟩ (by kernel_rfl) rfl nodeClients_plain (by kernel_rfl)
#print axioms nodeClients_holds
end Go.Proofs.YtmflbekabkainaaGreatDoor
