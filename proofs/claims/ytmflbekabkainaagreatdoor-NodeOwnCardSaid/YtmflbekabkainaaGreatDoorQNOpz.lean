import Derived.Test.YtmflbekabkainaaGreatDoorQNLawS
import Derived.Test.YtmflbekabkainaaGreatDoorQHgD
import Derived.Test.YtmflbekabkainaaGreatDoorRows
import Derived.Test.YtmflbekabkainaaGreatDoorQNBuilt
import Derived.Test.YtmflbekabkainaaGreatDoorQNTick
import Derived.Test.YtmflbekabkainaaGreatDoorQNRefS
set_option linter.unusedVariables false
set_option linter.unusedSimpArgs false
namespace Go.Hg
open Go.ChangeShapes Go.WideShapes Go.ChangeAt Go.RowKit
section
variable {H : Type} {enc : TypeId × Value → H} {P : Program} {w : World} {base : Nat} {held : Bool} {t : TypeId} {v : Value}
theorem range_rows {α : Type} {c : α → List Value} {size : Nat} (hc : ∀ x, (c x).length = size) {w : World} {b : Nat} : ∀ (xs : List α) (off : Nat), (∀ (i : Nat) (x : α), xs[i]? = some x → w.rangeAt b (off + i * size) (c x)) → w.rangeAt b off (cl c xs)
 | [], _, _ => fun j v h => by simp [cl] at h
 | x :: xs, off, h => fun j v hj => by
  have hl := hc x
  have hj : (c x ++ cl c xs)[j]? = some v := hj
  by_cases hlt : j < size
  · rw [List.getElem?_append_left (by omega)] at hj
    have := h 0 x rfl j v hj
    simpa using this
  · rw [List.getElem?_append_right (by omega), hl] at hj
    have := range_rows hc xs (off + size) (fun i y hy => by
     have := h (i + 1) y (by simpa using hy)
     rw [show off + size + i * size = off + (i + 1) * size by rw [Nat.add_mul, Nat.one_mul]; omega]
     exact this) (j - size) v hj
    rwa [show off + size + (j - size) = off + j by omega] at this
theorem see_trod {α : Type} {c : α → List Value} {size : Nat} {R : α → Prop} {e : TypeId} (hu : P.underlying t = some (.slice e)) (hce : P.cellsOf e = size) (h0 : 0 < size) (hc : ∀ x, (c x).length = size)
    (hel : ∀ n cs x, DataW.trod enc P w base (fun _ => true) held n e cs = some x → cs.length = size → ∃ y, R y ∧ cs = c y) {fuel : Nat} {x : DataW H × List MemPlace} (h : DataW.trod enc P w base (fun _ => true) held fuel t [v] = some x) :
    ∃ xs : List α, SeeL size c w [] v xs ∧ ∀ x ∈ xs, R x := by
 rcases Go.Deep.open_slice hu h with ⟨hcs, _⟩ | ⟨a, len, cap, m, n, D, Pl, hcs, _, hl, hm, hmm, _, hx⟩
 · cases hcs
   exact ⟨[], ⟨none, 0, 0, 0, rfl, Nat.le_refl _, fun h => absurd h (by simp), ⟨fun _ => rfl, fun x e => by cases e⟩, fun w' _ j u hj => by simp [cl] at hj⟩, fun x hx => by cases hx⟩
 · cases hcs
   simp only [if_true] at hmm
   subst hmm
   rw [hce] at hx
   obtain ⟨b, off, spot⟩ := a
   have hspot : m = 0 ∨ spot = none := by
    by_cases hm0 : m = 0
    · exact .inl hm0
    · obtain ⟨cs0, g1, _⟩ := hx 0 (by omega)
      obtain ⟨_, g3, g4⟩ := World.cells?_some g1
      have g5 := g4 0 h0
      have g6 : cs0[0]? = some cs0[0] := List.getElem?_eq_getElem (by omega)
      rw [g6] at g5
      exact .inr (by simpa [Addr.add] using World.cell?_spot g5)
   have hpick : ∀ i, i < len → ∃ y : α, R y ∧ w.rangeAt b (off + i * size) (c y) := fun i hi => by
    obtain ⟨cs, h1, h2⟩ := hx i (by omega)
    obtain ⟨_, h3, h4⟩ := World.cells?_some h1
    rcases hspot with hz | rfl
    · omega
    obtain ⟨y, hy, rfl⟩ := hel _ _ _ h2 h3
    refine ⟨y, hy, fun j u hj => ?_⟩
    have hlt := (List.getElem?_eq_some_iff.1 hj).1
    have := h4 j (by rw [← h3]; exact hlt)
    rw [Addr.add_lit, Addr.add_lit] at this
    exact this.trans hj
   obtain ⟨xs, hxl, hh⟩ := map_pick (R := fun (i : Nat) (y : α) => R y ∧ w.rangeAt b (off + i * size) (c y)) len id hpick
   refine ⟨xs, ⟨some ⟨b, off, spot⟩, m, b, off, by rw [hxl], by omega, fun hp => ?_, ⟨(fun e => by cases e), fun x e => ?_⟩, fun w' H => ?_⟩, fun y hy => ?_⟩
   · rcases hspot with hz | rfl
     · omega
     · rfl
   · cases e
     rcases hspot with hz | rfl
     · exact .inl hz
     · exact .inr rfl
   · intro j u hj
     have h9 := range_rows hc xs off (fun i x hx => (hh i x hx).2) j u hj
     exact (H.below.cell (World.block_lt_of_cell? w _ h9)).trans h9
   · obtain ⟨i, hi⟩ := List.getElem?_of_mem hy
     exact (hh i y hi).1
theorem c8_of_trod {e : TypeId} (he : P.underlying e = some (.int .u8)) {n : Nat} {cs : List Value} {x : DataW H × List MemPlace} (h : DataW.trod enc P w base (fun _ => true) held n e cs = some x) : ∃ y : BitVec 8, True ∧ cs = c8 y := by
 obtain ⟨z, rfl, _, hw⟩ := DataW.trod_int he h
 obtain ⟨m, hm, rfl⟩ := nat_of_wf (N := 256) hw rfl rfl
 refine ⟨BitVec.ofNat 8 m, trivial, ?_⟩
 unfold c8 iv
 rw [BitVec.toNat_ofNat, Nat.mod_eq_of_lt (by omega)]
theorem bytes_of_trod {e : TypeId} (hu : P.underlying t = some (.slice e)) (he : P.underlying e = some (.int .u8)) (hc : P.cellsOf e = 1) {fuel : Nat} {x : DataW H × List MemPlace} (h : DataW.trod enc P w base (fun _ => true) held fuel t [v] = some x) : ∃ bs, SeeB w [] v bs := by
 obtain ⟨xs, h1, _⟩ := see_trod (R := fun _ => True) hu hc (by omega) (fun _ => rfl) (fun n cs x h _ => c8_of_trod he h) h
 exact ⟨xs, h1⟩
theorem one_of_see {α : Type} {c : α → List Value} {size : Nat} {xs : List α} {w0 : World} {F : List SP} (h : SeeL size c w0 F v xs) : ∃ a n q, v = .slice a n q := by
 obtain ⟨a, q, h1, _⟩ := h.slice
 exact ⟨a, _, q, h1⟩
theorem i8_of_wf {z : Int} (h : (Lit.int .i8 z).wf = true) : -128 ≤ z ∧ z ≤ 127 := by
 have e1 : IntKind.i8.min = -128 := rfl
 have e2 : IntKind.i8.max = 127 := rfl
 simp [Lit.wf, e1, e2] at h
 omega
theorem i64_of_wf {z : Int} (h : (Lit.int .i64 z).wf = true) : -9223372036854775808 ≤ z ∧ z ≤ 9223372036854775807 := by
 have e1 : IntKind.i64.min = -9223372036854775808 := rfl
 have e2 : IntKind.i64.max = 9223372036854775807 := rfl
 simp [Lit.wf, e1, e2] at h
 omega
end
abbrev OpO := {o : OpD // o.ok}
def opC (o : OpO) : List Value := o.1.cells
theorem opC_len (o : OpO) : (opC o).length = 15 := rfl
end Go.Hg
namespace Go.Proofs.YtmflbekabkainaaGreatDoor
open Go.ChangeShapes Go.WideShapes Go.ChangeAt Go.RowKit Go.Hg
def opZ : List Value := [.int .i64 0, .int .u16 0, .int .u16 0, .int .u8 0, .int .u8 0, .int .i8 0, .int .i8 0, .int .u32 0, .int .u8 0, .bool false, .int .u16 0, .int .u16 0, .int .i64 0, .int .u8 0, .slice none 0 0]
theorem info_opz : (Tryz.prog.info? 38).map (fun i => (i.zero, i.size, i.bytes)) = some (some (.agg opZ.toArray), 15, 72) := by kernel_rfl
set_option maxRecDepth 20000 in
theorem el_op : El Tryz.prog 38 15 72 opC := ⟨⟨_, info_opz, rfl⟩, opC_len, fun x u hu => by
 obtain ⟨o, h⟩ := x
 obtain ⟨a, n, c, hb⟩ := h.slice
 simp only [opC, OpD.cells, hb, List.mem_cons, List.not_mem_nil, or_false] at hu
 rcases hu with rfl | rfl | rfl | rfl | rfl | rfl | rfl | rfl | rfl | rfl | rfl | rfl | rfl | rfl | rfl <;> rfl⟩
theorem op_one {o : OpD} (h : o.ok) : ∀ u ∈ o.cells.toArray.toList, u.oneCell' = true := fun u hu => el_op.one ⟨o, h⟩ u (by simpa [opC] using hu)
section
variable {H : Type} {enc : TypeId × Value → H} {w : World} {base base2 : Nat} {held : Bool} {v : Value} {d : DataW H} {ps : List MemPlace}
set_option maxRecDepth 20000 in
theorem op_of_trod {n : Nat} {cs : List Value} {x : DataW H × List MemPlace} (ht : DataW.trod enc Tryz.prog w base (fun _ => true) held n 38 cs = some x) (hl : cs.length = 15) : ∃ y : OpO, (∃ bs, SeeB w [] y.1.b bs) ∧ cs = opC y := by
 obtain ⟨xs, m', _, _, _, hxl, hf⟩ := DataW.trod_struct Tryz.underlying38 ht
 match cs, hl with
 | [c0, c1, c2, c3, c4, c5, c6, c7, c8, c9, c10, c11, c12, c13, c14], _ =>
  have g : ∀ j, j < 15 → ∃ y, xs[j]? = some y := fun j hj => ⟨_, List.getElem?_eq_getElem (by rw [hxl]; exact hj)⟩
  have z1 : Tryz.prog.cellsOf 3 = 1 := by kernel_rfl
  have z2 : Tryz.prog.cellsOf 27 = 1 := by kernel_rfl
  have z3 : Tryz.prog.cellsOf 5 = 1 := by kernel_rfl
  have z4 : Tryz.prog.cellsOf 35 = 1 := by kernel_rfl
  have z5 : Tryz.prog.cellsOf 36 = 1 := by kernel_rfl
  have z6 : Tryz.prog.cellsOf 4 = 1 := by kernel_rfl
  have z7 : Tryz.prog.cellsOf 33 = 1 := by kernel_rfl
  obtain ⟨y, q⟩ := g 0 (by omega); obtain ⟨kind, e0, _, _⟩ := DataW.trod_int Tryz.underlying3 ((hf 0 _ rfl).trans q)
  obtain ⟨y, q⟩ := g 1 (by omega); obtain ⟨by_, e1, _, w1⟩ := DataW.trod_int Tryz.underlying27 ((hf 1 _ rfl).trans q)
  obtain ⟨y, q⟩ := g 2 (by omega); obtain ⟨who, e2, _, w2⟩ := DataW.trod_int Tryz.underlying27 ((hf 2 _ rfl).trans q)
  obtain ⟨y, q⟩ := g 3 (by omega); obtain ⟨key, e3, _, w3⟩ := DataW.trod_int Tryz.underlying5 ((hf 3 _ rfl).trans q)
  obtain ⟨y, q⟩ := g 4 (by omega); obtain ⟨old, e4, _, w4⟩ := DataW.trod_int Tryz.underlying5 ((hf 4 _ rfl).trans q)
  obtain ⟨y, q⟩ := g 5 (by omega); obtain ⟨early, e5, _, w5⟩ := DataW.trod_int Tryz.underlying35 ((hf 5 _ rfl).trans q)
  obtain ⟨y, q⟩ := g 6 (by omega); obtain ⟨late, e6, _, w6⟩ := DataW.trod_int Tryz.underlying35 ((hf 6 _ rfl).trans q)
  obtain ⟨y, q⟩ := g 7 (by omega); obtain ⟨delay, e7, _, w7⟩ := DataW.trod_int Tryz.underlying36 ((hf 7 _ rfl).trans q)
  obtain ⟨y, q⟩ := g 8 (by omega); obtain ⟨nonce, e8, _, w8⟩ := DataW.trod_int Tryz.underlying5 ((hf 8 _ rfl).trans q)
  obtain ⟨y, q⟩ := g 9 (by omega); obtain ⟨last, e9, _⟩ := DataW.trod_bool Tryz.underlying4 ((hf 9 _ rfl).trans q)
  obtain ⟨y, q⟩ := g 10 (by omega); obtain ⟨box, e10, _, w10⟩ := DataW.trod_int Tryz.underlying27 ((hf 10 _ rfl).trans q)
  obtain ⟨y, q⟩ := g 11 (by omega); obtain ⟨next, e11, _, w11⟩ := DataW.trod_int Tryz.underlying27 ((hf 11 _ rfl).trans q)
  obtain ⟨y, q⟩ := g 12 (by omega); obtain ⟨at_, e12, _, w12⟩ := DataW.trod_int Tryz.underlying3 ((hf 12 _ rfl).trans q)
  obtain ⟨y, q⟩ := g 13 (by omega); obtain ⟨turn, e13, _, w13⟩ := DataW.trod_int Tryz.underlying5 ((hf 13 _ rfl).trans q)
  obtain ⟨y, q⟩ := g 14 (by omega); have e14 := (hf 14 _ rfl).trans q
  simp [z1, z2, z3, z4, z5, z6, z7] at e0 e1 e2 e3 e4 e5 e6 e7 e8 e9 e10 e11 e12 e13 e14
  subst e0 e1 e2 e3 e4 e5 e6 e7 e8 e9 e10 e11 e12 e13
  obtain ⟨bs, hb⟩ := bytes_of_trod Tryz.underlying33 Tryz.underlying5 z3 e14
  obtain ⟨by_, b1, rfl⟩ := nat_of_wf (N := 65536) w1 rfl rfl
  obtain ⟨who, b2, rfl⟩ := nat_of_wf (N := 65536) w2 rfl rfl
  obtain ⟨key, b3, rfl⟩ := nat_of_wf (N := 256) w3 rfl rfl
  obtain ⟨old, b4, rfl⟩ := nat_of_wf (N := 256) w4 rfl rfl
  obtain ⟨delay, b7, rfl⟩ := nat_of_wf (N := 4294967296) w7 rfl rfl
  obtain ⟨nonce, b8, rfl⟩ := nat_of_wf (N := 256) w8 rfl rfl
  obtain ⟨box, b10, rfl⟩ := nat_of_wf (N := 65536) w10 rfl rfl
  obtain ⟨next, b11, rfl⟩ := nat_of_wf (N := 65536) w11 rfl rfl
  obtain ⟨turn, b13, rfl⟩ := nat_of_wf (N := 256) w13 rfl rfl
  refine ⟨⟨⟨kind, by_, who, key, old, early, late, delay, BitVec.ofNat 8 nonce, last, box, next, at_, BitVec.ofNat 8 turn, c14⟩, ⟨b1, b2, b3, b4, i8_of_wf w5, i8_of_wf w6, b7, b10, b11, i64_of_wf w12, one_of_see hb⟩⟩, ⟨bs, hb⟩, ?_⟩
  simp only [opC, OpD.cells, iv, BitVec.toNat_ofNat]
  rw [Nat.mod_eq_of_lt b8, Nat.mod_eq_of_lt b13]
set_option maxRecDepth 20000 in
theorem open_ops (hv : Value.okWide Tryz.prog w .any base2 23 v) (h : DataW.Trod enc Tryz.prog w base (fun _ => true) held 23 v d ps) : ∃ ops : List OpO, (SeeL 15 opC w [] v ops ∧ ∀ x ∈ ops, ∃ bs, SeeB w [] x.1.b bs) := by
 obtain ⟨a, len, cap, rfl⟩ := okWide_slice Tryz.underlying23 hv
 obtain ⟨fuel, hf⟩ := h
 exact see_trod Tryz.underlying23 (by kernel_rfl) (by omega) opC_len (fun n cs x h hl => op_of_trod h hl) hf
end
end Go.Proofs.YtmflbekabkainaaGreatDoor
namespace Go.Hg
open Go.RowKit
def OpD.bytes (o : OpD) (bs : Bytes) (now : Nat) (ls : Bytes) : Bytes := if 1 ≤ o.kind ∧ o.kind ≤ 5 then o.built now else if o.kind = 6 then bs.take 700 else if o.kind = 10 then ls else []
section
variable {α : Type} {size : Nat} {c : α → List Value} {w0 : World} {F G : List SP} {v : Value} {xs : List α}
theorem SeeL.at_ (h : SeeL size c w0 F v xs) (f : ∀ w, At w0 G w → At w0 F w) : SeeL size c w0 G v xs := by
 obtain ⟨a, cap, b, off, h1, h2, h3, h5, h4⟩ := h
 exact ⟨a, cap, b, off, h1, h2, h3, h5, fun w' H => h4 w' (f w' H)⟩
theorem see_bag {Y : List SP} (Z : List SP) (h : SeeL size c w0 [bag Y] v xs) : SeeL size c w0 [bag (Y ++ Z)] v xs :=
 h.at_ fun w H => At.bag_shut Y (by
  have H2 := H.bag_open
  rw [List.append_nil] at H2 ⊢
  exact H2.imp (seps_pick _ _ (List.sublist_append_left Y Z)))
theorem see_in {Y : List SP} {P : SP} (h : SeeL size c w0 [P] v xs) : SeeL size c w0 [bag (Y ++ [P])] v xs :=
 h.at_ fun w H => by
  have H2 := H.bag_open
  rw [List.append_nil] at H2
  exact H2.imp (seps_pick _ _ (List.sublist_append_right Y [P]))
theorem see_any {Y : List SP} (h : SeeL size c w0 [] v xs) : SeeL size c w0 [bag Y] v xs := h.more _
theorem see_nil (size : Nat) (c : α → List Value) (w0 : World) (F : List SP) : SeeL size c w0 F (.slice none 0 0) [] := ⟨none, 0, 0, 0, rfl, Nat.le_refl _, fun h => absurd h (by simp), ⟨fun _ => rfl, fun x e => by cases e⟩, fun w' _ j u hj => by simp [cl] at hj⟩
end
end Go.Hg
namespace Go.Proofs.YtmflbekabkainaaGreatDoor
open Go.RowKit Go.Hg
theorem see_byt1 {w0 w : World} {F : List SP} {v : Value} {bs : Bytes} (H : At w0 (byt 5 v bs :: F) w) : SeeB w0 [byt 5 v bs] v bs := see_byt 0 rfl w (H.imp (seps_pick _ _ (by simp)))
set_option maxRecDepth 20000 in
set_option maxHeartbeats 4000000 in
theorem lbytes_c {w0 w : World} {F Y : List SP} (H : At w0 (bag Y :: F) w) {o : OpD} (ho : o.ok) {bs ls : Bytes} {vl : Value} (hb : SeeB w0 [] o.b bs) (hl : SeeB w0 [bag Y] vl ls) {now : Nat} (hnow : now < 18446744073709551616) :
    Calls Tryz.prog 15 #[.agg o.cells.toArray, .int .u64 (now : Int), vl] w fun e w' => ∃ v Z, e = .returned v ∧ At w0 (bag Z :: F) w' ∧ SeeB w0 [bag Z] v (o.bytes bs now ls) ∧ SeeB w0 [bag Z] vl ls := by
 obtain ⟨k, hk⟩ : ∃ k, k = o.kind := ⟨_, rfl⟩
 have hc0 := Lib.hid (show o.cells[0]? = some (.int .i64 k) by rw [hk]; rfl)
 obtain ⟨R, hR⟩ : ∃ R, R = o.bytes bs now ls := ⟨_, rfl⟩
 rw [← hR]
 unfold OpD.bytes at hR
 rw [← hk] at hR
 have HO := Lib.hid ho
 have HN := Lib.hid hnow
 have HB := Lib.hid hb
 have HL := Lib.hid hl
 clear hb hl ho hnow
 by_cases h15 : 1 ≤ k ∧ k ≤ 5
 · rw [if_pos h15] at hR
   have HR := Lib.hid hR
   have h5 : k = 1 ∨ k = 2 ∨ k = 3 ∨ k = 4 ∨ k = 5 := by omega
   clear h15 hR hk
   rcases h5 with rfl | rfl | rfl | rfl | rfl
   all_goals
    go_enter Tryz.func15, Tryz.ntmps15
    go_wp2_with ((with_reducible refine wpList_op rfl ?_); intro _ hK; first
     | (refine dst_is 3 rfl ?_; refine wp_box_sl (v := .agg o.cells.toArray) 38 _ rfl rfl H (fun O w' (H : At w0 (raw O o.cells.toArray 38 :: _) w') _ => hK _ _ ?_))
     | (refine dst_is 8 rfl ?_; refine wp_get 3 _ rfl rfl (by kernel_rfl) (at_raw H 0 rfl (j := 0) hc0.out) (hK _ _ (Stop.go ?_))))
    refine Stop.un ?_
    go_wp2_with ((with_reducible refine wpList_op rfl ?_); intro _ hK; first
     | (refine dst_is 15 rfl ?_; refine wp_mid 38 _ rfl rfl o.cells (by kernel_rfl) (by rw [opC_length]; exact info_op) (at_blk H 0 rfl) (hK _ _ (Stop.go ?_))))
    refine Stop.un ?_
    go_wp2_with fail
    refine (lbuilt_c H HO.out HN.out).mono ?_; rintro e w' ⟨v, rfl, H⟩
    replace H := H.maskR [true, false, true]
    have hs := Lib.hid (see_byt1 H)
    go_wp2_with fail
    go_ret
    rw [HR.out]
    exact ⟨v, _, rfl, (H.pull 1 rfl).bag_add, see_in hs.out, see_bag _ HL.out⟩
 · have n1 : (k == 1) = false := by simp; omega
   have n2 : (k == 2) = false := by simp; omega
   have n3 : (k == 3) = false := by simp; omega
   have n4 : (k == 4) = false := by simp; omega
   have n5 : (k == 5) = false := by simp; omega
   rw [if_neg h15] at hR
   clear hk h15
   by_cases h6 : k = 6
   · rw [if_pos h6] at hR
     subst h6
     obtain ⟨a, n, c, hab⟩ := HO.out.slice
     have hc14 := Lib.hid (show o.cells[14]? = some (.slice a n c) by rw [← hab]; rfl)
     have hb := HB.out
     rw [hab] at hb
     obtain ⟨a', q, h1, h2, _⟩ := hb.slice
     cases h1
     obtain ⟨m, hm⟩ : ∃ m : Nat, m = min bs.length 700 := ⟨_, rfl⟩
     have hmin : (if (700 : Int) < (bs.length : Int) then 700 else (bs.length : Int)) = (m : Int) := by rw [hm]; split <;> omega
     obtain ⟨x, hx1, hx2⟩ := hb.upto el_u8 (t := 33) under_bytes8 rfl (k := m) (by omega)
     have HX := Lib.hid (fun w => hx2 w)
     have HR := Lib.hid (show SeeB w0 [] x R by
      rw [hR]
      have : bs.take 700 = bs.take m := by rw [hm, List.take_eq_take_iff]; omega
      rw [this]
      exact hx1)
     clear hx1 hx2 hb hm hR
     go_enter Tryz.func15, Tryz.ntmps15
     go_wp2_with ((with_reducible refine wpList_op rfl ?_); intro _ hK; first
      | (refine dst_is 3 rfl ?_; refine wp_box_sl (v := .agg o.cells.toArray) 38 _ rfl rfl H (fun O w' (H : At w0 (raw O o.cells.toArray 38 :: _) w') _ => hK _ _ ?_))
      | (refine dst_is 8 rfl ?_; refine wp_get 3 _ rfl rfl (by kernel_rfl) (at_raw H 0 rfl (j := 0) hc0.out) (hK _ _ (Stop.go ?_))))
     refine Stop.un ?_
     go_wp2_with ((with_reducible refine wpList_op rfl ?_); intro _ hK; first
      | (refine dst_is 21 rfl ?_; refine wp_get 33 _ rfl rfl (by kernel_rfl) (at_raw H 0 rfl (j := 14) hc14.out) (hK _ _ ?_))
      | (refine dst_is 23 rfl ?_; refine wp_get 33 _ rfl rfl (by kernel_rfl) (at_raw H 0 rfl (j := 14) hc14.out) (hK _ _ ?_))
      | (refine dst_is 26 rfl ?_; refine wp_slice 33 _ _ _ _ rfl (HX.out _) (hK _ _ (Stop.go ?_))))
     refine Stop.un ?_
     go_wp2_with fail
     go_ret
     exact ⟨x, Y, rfl, H.tail, see_any HR.out, HL.out⟩
   · have n6 : (k == 6) = false := by simp; omega
     rw [if_neg h6] at hR
     clear h6
     by_cases h10 : k = 10
     · rw [if_pos h10] at hR
       subst h10
       have HR := Lib.hid hR
       clear hR
       go_enter Tryz.func15, Tryz.ntmps15
       go_wp2_with ((with_reducible refine wpList_op rfl ?_); intro _ hK; first
        | (refine dst_is 3 rfl ?_; refine wp_box_sl (v := .agg o.cells.toArray) 38 _ rfl rfl H (fun O w' (H : At w0 (raw O o.cells.toArray 38 :: _) w') _ => hK _ _ ?_))
        | (refine dst_is 8 rfl ?_; refine wp_get 3 _ rfl rfl (by kernel_rfl) (at_raw H 0 rfl (j := 0) hc0.out) (hK _ _ (Stop.go ?_))))
       refine Stop.un ?_
       go_wp2_with fail
       go_ret
       rw [HR.out]
       exact ⟨vl, Y, rfl, H.tail, HL.out, HL.out⟩
     · have n10 : (k == 10) = false := by simp; omega
       rw [if_neg h10] at hR
       have HR := Lib.hid hR
       clear hR h10
       go_enter Tryz.func15, Tryz.ntmps15
       go_wp2_with ((with_reducible refine wpList_op rfl ?_); intro _ hK; first
        | (refine dst_is 3 rfl ?_; refine wp_box_sl (v := .agg o.cells.toArray) 38 _ rfl rfl H (fun O w' (H : At w0 (raw O o.cells.toArray 38 :: _) w') _ => hK _ _ ?_))
        | (refine dst_is 8 rfl ?_; refine wp_get 3 _ rfl rfl (by kernel_rfl) (at_raw H 0 rfl (j := 0) hc0.out) (hK _ _ (Stop.go ?_))))
       refine Stop.un ?_
       go_wp2_with fail
       go_ret
       rw [HR.out]
       exact ⟨_, Y, rfl, H.tail, see_nil _ _ _ _, HL.out⟩
end Go.Proofs.YtmflbekabkainaaGreatDoor
namespace Go.Hg
theorem NodeD.popsO_len (now : Nat) : ∀ (n : Nat) (s : NodeD), ∀ y ∈ NodeD.popsO n s now, y.2.length = 614
 | 0, s, y, h => by cases h
 | n + 1, s, y, h => by
  unfold NodeD.popsO at h
  split at h
  · rcases List.mem_append.1 h with h | h
    · unfold NodeD.popO at h
      split at h
      · cases h
      · simp at h
        subst h
        exact packOf_length (popX s.hp now).2.p
    · exact NodeD.popsO_len now n _ y h
  · cases h
theorem NodeD.tickO_len (s : NodeD) (now : Nat) : ∀ y ∈ s.tickO now, y.2.length = 614 := NodeD.popsO_len now _ _
theorem sub_at {P : SP} (A B : List SP) : [P].Sublist (A ++ P :: B) := (List.singleton_sublist).2 (by simp)
end Go.Hg
namespace Go.Proofs.YtmflbekabkainaaGreatDoor
open Go.RowKit Go.Hg
theorem out_get {xs : List OutV} {l : List (Nat × Bytes)} (h : outFit xs l) {n : Nat} {y : Nat × Bytes} (hy : l[n]? = some y) : ∃ x, xs[n]? = some x ∧ x.1 = y.1 ∧ x.2.2.1 = y.2.length := by
 unfold outFit at h
 have h2 : (xs.map (fun x => (x.1, x.2.2.1)))[n]? = some (y.1, y.2.length) := by rw [h, List.getElem?_map, hy]; rfl
 rw [List.getElem?_map] at h2
 obtain ⟨x, hx, h3⟩ := Option.map_eq_some_iff.1 h2
 exact ⟨x, hx, (Prod.mk.inj h3).1, (Prod.mk.inj h3).2⟩
theorem see_out {w0 w : World} {F : List SP} {xs : List OutV} {l : List (Nat × Bytes)} {n : Nat} {x : OutV} {y : Nat × Bytes} (hx : xs[n]? = some x) (hy : l[n]? = some y) (hl : x.2.2.1 = y.2.length) (H : At w0 (bag (List.zipWith outRow xs l) :: F) w) :
    SeeB w0 [bag (List.zipWith outRow xs l)] (.slice x.2.1 x.2.2.1 x.2.2.2) y.2 := by
 have hz : (List.zipWith outRow xs l)[n]? = some (outRow x y) := by rw [List.getElem?_zipWith, hx, hy]
 have H2 : At w0 (List.zipWith outRow xs l) w := H.bag_open.imp (seps_pick _ _ (List.sublist_append_left _ _))
 exact (see_own el_u8 H2 n hl hz).at_ fun w' H' => by
  have := H'.bag_open
  rwa [List.append_nil] at this
end Go.Proofs.YtmflbekabkainaaGreatDoor
