/-
  Chapter 11: a packet for its first hop.
-/
import Derived.Test.YtgdphamdbpkjdaaDoorHopB
namespace Go.Proofs.YtgdphamdbpkjdaaDoor
open Go.RowKit Go.Hg
set_option linter.unusedSimpArgs false
set_option linter.unusedVariables false
/-- The hop behind, as a pointer. -/
def NextOK (F : List SP) (nv : Value) (next : Option HopD) : Prop := (nv = .pointer none ∧ next = none) ∨ ∃ (N q : Nat) (n : HopD), nv = .pointer (some ⟨N, 0, none⟩) ∧ next = some n ∧ n.ok ∧ F[q]? = some (raw N n.cells.toArray 35)
theorem NextOK.more {F : List SP} {nv : Value} {next : Option HopD} (h : NextOK F nv next) (X : SP) : NextOK (X :: F) nv next := by
  rcases h with h | ⟨N, q, n, h1, h2, h3, h4⟩
  · exact .inl h
  · exact .inr ⟨N, q + 1, n, h1, h2, h3, by simpa using h4⟩
theorem slot_c {w0 w : World} {F : List SP} {h : HopD} {p : PktD} {box : Nat} {nv : Value} {next : Option HopD} (H : At w0 F w) (o : h.ok) (po : p.ok) (hn : NextOK F nv next) :
    Calls Tryd.prog 22 #[.agg h.cells.toArray, nv, .agg p.cells.toArray, .int .u16 (box : Int)] w fun r w' => r = .returned (.agg (slotOf h next p box).cells.toArray) ∧ At w0 F w' := by
  rcases hn with ⟨rfl, rfl⟩ | ⟨N, q, n, rfl, rfl, on, hq⟩
  · exact slot_none_c H o po
  · exact slot_some_c H o on po hq
theorem slotOf_ok {h : HopD} {next : Option HopD} {p : PktD} {box : Nat} (o : h.ok) (on : ∀ n, next = some n → n.ok) (po : p.ok) (hb : box < 65536) : (slotOf h next p box).ok := by
  cases next with
  | none => exact ⟨by simp [slotOf], by simpa [slotOf] using hb, by simp [slotOf], by simp [slotOf], zs_length _, zs_length _, o.lo, o.hi, o.delay⟩
  | some n =>
    have on := on n rfl
    exact ⟨on.addr, by simp [slotOf], on.who, on.epoch, on.nonce, po.mac, o.lo, o.hi, o.delay⟩
theorem wrapOf_some {h : HopD} {p : PktD} {s : SlotD} {e : List (BitVec 8)} {q : PktD} (hq : wrapOf h p s e = some q) : s.right = true := by
  unfold wrapOf at hq
  split at hq
  · assumption
  · cases hq
theorem wrapOf_none {h : HopD} {p : PktD} {s : SlotD} {e : List (BitVec 8)} (hq : wrapOf h p s e = none) : s.right = false := by
  unfold wrapOf at hq
  split at hq
  · cases hq
  · rename_i hr
    simpa using hr
theorem wrapOf_ok {h : HopD} {p : PktD} {s : SlotD} {e : List (BitVec 8)} {q : PktD} (o : h.ok) (po : p.ok) (so : s.ok) (he : e.length ≤ 320) (hq : wrapOf h p s e = some q) : q.ok := by
  unfold wrapOf at hq
  split at hq
  · cases hq
    refine ⟨o.who, o.epoch, o.nonce, sumOf_length _ _, ?_, ?_⟩
    · show (_ ++ e).length = 320
      rw [List.length_append, List.length_take, xorB_length, List.length_append, SlotD.bytes_length so.nonce so.mac, List.length_take, po.head, headsOf_length (show h.keys.ok from keysOf_ok _ _ _)]
      omega
    · show (xorB _ _).length = 256
      rw [xorB_length, po.body, bodiesOf_length (show h.keys.ok from keysOf_ok _ _ _)]
      rfl
  · cases hq
theorem take_rev {hops : List HopO} {c : Nat} {h : HopO} (hx : hops[c]? = some h) : ((hops.take (c + 1)).map (·.1)).reverse = h.1 :: ((hops.take c).map (·.1)).reverse := by
  rw [List.take_add_one, hx]
  simp
/-- What a build gives. -/
def BldP (r : Option PktD) : PktD := r.getD PktD.zero
def BldE (r : Option PktD) : Int := if r.isSome then 0 else 1
structure BInv (w0 : World) (F F2 : List SP) (hv nv ev : Value) (next : Option HopD) (eb : List (BitVec 8)) (p : PktD) (box c : Nat) (hops : List HopO) (R : Option PktD) : Prop where
  isub : ∀ h, seps F2 h → seps F h
  isee : SeeL 54 hopC w0 F2 hv hops
  inext : NextOK F2 nv next
  iok : ∀ n, next = some n → n.ok
  iend : SeeB w0 F2 ev eb
  ilen : eb.length ≤ 320
  ip : p.ok
  irun : buildR ((hops.take c).map (·.1)).reverse next p eb box = R
set_option maxRecDepth 10000 in
set_option maxHeartbeats 4000000 in
theorem build_bad {w0 w : World} {F : List SP} {a : Option Addr} {m cap box : Nat} {body : List (BitVec 8)} (H : At w0 F w) (hb : body.length = 256) (hm : (m : Int) < 1 ∨ 5 < (m : Int)) :
    Calls Tryd.prog 10 #[.slice a m cap, .int .u16 (box : Int), .agg (v8 body).toArray] w fun r w' => r = .returned (.tuple #[.agg PktD.zero.cells.toArray, .int .i64 1]) ∧ At w0 F w' := by
  have HB := Lib.hid hb
  clear hb
  rcases hm with hm | hm
  all_goals
    go_enter Tryd.func10, Tryd.ntmps10
    go_wp2_with ((first | (with_reducible refine wpList_op rfl ?_) | (refine wpList_opif (by rfl) ?_)); intro _ hK; first
      | (refine wp_box_sl (v := .agg (v8 body).toArray) 24 _ rfl rfl H (fun B w' (H : At w0 (raw B (v8 body).toArray 24 :: F) w') _ => hK _ _ ?_))
      | (refine wp_alloc_sl 39 rfl info_pkt H (fun O w' (H : At w0 (raw O PktD.zero.cells.toArray 39 :: raw B (v8 body).toArray 24 :: F) w') _ => hK _ _ ?_))
      | (refine Hg.wp_build 39 _ rfl (by rw [Array.toList_map]; rfl) (run_buildL places_pkt [] rfl _) (hK _ _ ?_))
      | (refine wp_store_row_sl 39 _ _ rfl (b := O) (cells := PktD.zero.cells.toArray) rfl rfl (by kernel_rfl) (by simpa using PktD.cells_one) 0 H rfl rfl (fun w' H => ?_); replace H : At w0 (raw O PktD.zero.cells.toArray 39 :: F) w' := H.maskR [true, false]; refine hK _ _ ?_))
    exact bodyPost_ret (v := .tuple #[.agg PktD.zero.cells.toArray, .int .i64 1]) (results_row_tmp rfl _ rfl (at_blk H 0 rfl) (by kernel_rfl) (by kernel_rfl) rfl) rfl ⟨rfl, H.tail⟩
theorem inv_next {w0 : World} {F F2 : List SP} {hv nv ev : Value} {next : Option HopD} {eb : List (BitVec 8)} {p q : PktD} {box c D : Nat} {hops : List HopO} {R : Option PktD} {h : HopO} (I : BInv w0 F F2 hv nv ev next eb p box (c + 1) hops R) (hx : hops[c]? = some h) (hw : wrapOf h.1 p (slotOf h.1 next p box) eb = some q) (hb : box < 65536) :
    BInv w0 F (raw D h.1.cells.toArray 35 :: F2) hv (.pointer (some ⟨D, 0, none⟩)) (.slice none 0 0) (some h.1) [] q box c hops R := by
  have hr := I.irun
  rw [take_rev hx] at hr
  refine ⟨fun x hs => I.isub x (sep_tail hs), I.isee.more _, .inr ⟨D, 0, h.1, rfl, rfl, h.2, rfl⟩, fun n e => by cases e; exact h.2, ⟨none, 0, 0, 0, rfl, Nat.le_refl _, fun h => absurd h (by simp), ⟨fun _ => rfl, fun x e => by cases e⟩, fun w' _ j u hj => by simp [cl] at hj⟩, by simp, wrapOf_ok h.2 I.ip (slotOf_ok h.2 I.iok I.ip hb) I.ilen hw, ?_⟩
  rw [← hr]
  show _ = (wrapOf h.1 p (slotOf h.1 next p box) eb).bind fun q => buildR ((hops.take c).map (·.1)).reverse (some h.1) q [] box
  rw [hw]
  rfl
theorem inv_none {w0 : World} {F F2 : List SP} {hv nv ev : Value} {next : Option HopD} {eb : List (BitVec 8)} {p : PktD} {box c : Nat} {hops : List HopO} {R : Option PktD} {h : HopO} (I : BInv w0 F F2 hv nv ev next eb p box (c + 1) hops R) (hx : hops[c]? = some h) (hw : wrapOf h.1 p (slotOf h.1 next p box) eb = none) : R = none := by
  have hr := I.irun
  rw [take_rev hx] at hr
  rw [← hr]
  show (wrapOf h.1 p (slotOf h.1 next p box) eb).bind (fun q => buildR ((hops.take c).map (·.1)).reverse (some h.1) q [] box) = none
  rw [hw]
  rfl
set_option maxRecDepth 10000 in
set_option maxHeartbeats 4000000 in
theorem build_good {w0 w : World} {F : List SP} {v : Value} {hops : List HopO} {box : Nat} {body : List (BitVec 8)} (G : Glob w0) (H : At w0 F w) (hv : SeeL 54 hopC w0 F v hops) (hb : body.length = 256) (hbox : box < 65536) (h1 : 1 ≤ hops.length) (h5 : hops.length ≤ 5) :
    Calls Tryd.prog 10 #[v, .int .u16 (box : Int), .agg (v8 body).toArray] w fun r w' => r = .returned (.tuple #[.agg (BldP (buildOf (hops.map (·.1)) box body)).cells.toArray, .int .i64 (BldE (buildOf (hops.map (·.1)) box body))]) ∧ At w0 F w' := by
  have HB := Lib.hid hb
  have HBX := Lib.hid hbox
  obtain ⟨a, cap, rfl, hcap, hsome⟩ := hv.slice
  obtain ⟨m, hm⟩ : ∃ m, m = hops.length := ⟨_, rfl⟩
  rw [← hm] at hv hsome ⊢
  have hm5 : (m : Int) ≤ 5 := by omega
  have hm1 : (1 : Int) ≤ (m : Int) := by omega
  obtain ⟨k, hk⟩ : ∃ k, k + 1 = m := ⟨m - 1, by omega⟩
  have hk1 : (m : Int) - 1 = (k : Int) := by omega
  have hk2 : IntKind.i64.wrap (k : Int) = (k : Int) := by rw [IntKind.wrap_i64]; omega
  obtain ⟨ba, off, rfl⟩ := hsome (by omega)
  obtain ⟨fv, hfv, hrun⟩ := hv.upto el_hop under_hops' elem_hops (k := k) (by omega)
  have HFV := Lib.hid hfv
  have HRUN := Lib.hid hrun
  have HV := Lib.hid hv
  have HM := Lib.hid hm
  have HK := Lib.hid hk
  obtain ⟨R, hR⟩ : ∃ R, R = buildOf (hops.map (·.1)) box body := ⟨_, rfl⟩
  obtain ⟨p0, hp0⟩ : ∃ p : PktD, p = { PktD.zero with body := body } := ⟨_, rfl⟩
  have hp0o := Lib.hid (show p0.ok by rw [hp0]; exact ⟨by simp [PktD.zero], by simp [PktD.zero], zs_length _, zs_length _, zs_length _, hb⟩)
  have hp0l := Lib.hid (PktD.cells_length hp0o.out)
  have hbd := Lib.hid (run_buildL places_pkt [(5, .agg (v8 body).toArray)] (by rw [hp0]; exact PktD.build_body hb : _ = some p0.cells))
  obtain ⟨E0, hE0⟩ : ∃ E, E = fillOf ((hops.take k).map (·.1)) [] := ⟨_, rfl⟩
  have hE0l := Lib.hid (show E0.length ≤ 320 by rw [hE0, fillOf_length _ _ (by simp; omega)]; simp; omega)
  have HE0 := Lib.hid hE0
  have hst := Lib.hid (show buildR ((hops.take m).map (·.1)).reverse none p0 E0 box = R by
    rw [hR, hp0, hE0]
    unfold buildOf
    rw [if_neg (by rw [List.length_map]; omega), hm, List.take_length, ← List.map_dropLast, List.dropLast_eq_take]
    have e : hops.length - 1 = k := by omega
    rw [e])
  rw [← hR]
  clear hb hbox hv hfv hrun hcap hsome hk hm hp0 hE0 hR h1 h5
  go_enter Tryd.func10, Tryd.ntmps10
  go_wp2_with ((first | (with_reducible refine wpList_op rfl ?_) | (refine wpList_opif (by rfl) ?_)); intro _ hK; first
    | (refine wp_box_sl (v := .agg (v8 body).toArray) 24 _ rfl rfl H (fun B w' (H : At w0 (raw B (v8 body).toArray 24 :: F) w') _ => hK _ _ ?_))
    | (refine wp_alloc_sl 39 rfl info_pkt H (fun O w' (H : At w0 (raw O PktD.zero.cells.toArray 39 :: raw B (v8 body).toArray 24 :: F) w') _ => hK _ _ ?_))
    | (refine wp_lda 24 _ rfl rfl (by kernel_rfl) (by rw [HB.out]; exact size_a256) 1 H rfl (hK _ _ ?_))
    | (refine Hg.wp_build 39 _ rfl (by rw [Array.toList_map]; rfl) (hbd.out _) (hK _ _ ?_))
    | (refine wp_alloc_sl 39 rfl info_pkt H (fun P w' H _ => ?_); replace H : At w0 (raw P PktD.zero.cells.toArray 39 :: raw O PktD.zero.cells.toArray 39 :: F) w' := H.maskR [true, true, false]; refine hK _ _ ?_)
    | (refine wp_store_row_sl 39 _ _ rfl (b := P) (cells := p0.cells.toArray) rfl rfl (by rw [List.size_toArray, hp0l.out]; exact size_pkt) (by simpa using PktD.cells_one) 0 H rfl (by rw [List.size_toArray, List.size_toArray, hp0l.out]; rfl) (fun w' (H : At w0 (raw P p0.cells.toArray 39 :: raw O PktD.zero.cells.toArray 39 :: F) w') => hK _ _ ?_))
    | (refine wp_slice 22 _ _ _ _ rfl (HRUN.out _) (hK _ _ ?_)))
  refine (filler_c G H ((HFV.out.more _).more _) (by rw [List.length_take]; have := HM.out; omega)).mono ?_; rintro e w' ⟨fa, rfl, H⟩
  rw [← HE0.out] at H ⊢
  obtain ⟨fn, hfn⟩ : ∃ n, n = E0.length := ⟨_, rfl⟩
  have HFN := Lib.hid hfn
  rw [← hfn] at H ⊢
  clear hfn
  replace H : At w0 (raw P p0.cells.toArray 39 :: raw O PktD.zero.cells.toArray 39 :: lrow 5 1 c8 (.slice fa fn fn) E0 :: F) w' := (((H).pull 2 rfl).pull 2 rfl)
  have I0 : BInv w0 F (lrow 5 1 c8 (.slice fa fn fn) E0 :: F) (.slice (some ⟨ba, off, none⟩) m cap) (.pointer none) (.slice fa fn fn) none E0 p0 box m hops R :=
    ⟨fun h s => sep_tail s, HV.out.more _, .inl ⟨rfl, rfl⟩, (fun n e => by cases e), see_own el_u8 H.tail.tail 0 HFN.out rfl, hE0l.out, hp0o.out, hst.out⟩
  have II := Lib.hid I0
  clear I0
  go_wp2_with fail
  go_loopw [10, 11, 12] (fun ev nv i wr => ∃ (F2 : List SP) (next : Option HopD) (eb : List (BitVec 8)) (p : PktD) (c : Nat) (z : Int), c ≤ m ∧ i = .int .i64 z ∧ z + 1 = (c : Int) ∧ BInv w0 F F2 (.slice (some ⟨ba, off, none⟩) m cap) nv ev next eb p box c hops R ∧ At w0 (raw P p.cells.toArray 39 :: raw O PktD.zero.cells.toArray 39 :: F2) wr) (fun _ _ i _ => (intOf i + 1).toNat)
  case atStart => exact ⟨_, none, E0, p0, m, _, Nat.le_refl _, rfl, by omega, II.out, H⟩
  case round =>
    clear H II
    obtain ⟨F2, next, eb, p, c, z, hcm, rfl, hz, I, H⟩ := hrel
    have I := Lib.hid I
    cases c with
    | zero =>
      obtain rfl : z = -1 := by omega
      have hpl := Lib.hid (PktD.cells_length I.out.ip)
      have hR := Lib.hid (show R = some p by rw [← I.out.irun]; rfl)
      go_wp2_with ((with_reducible refine wpList_op rfl ?_); intro _ hK; first
        | (refine wp_mid 39 _ rfl (b := P) (off := 0) rfl p.cells (by kernel_rfl) (by rw [hpl.out]; exact size_pkt) (at_blk H 0 rfl) (hK _ _ ?_))
        | (refine wp_store_row_sl 39 _ _ rfl (b := O) (cells := p.cells.toArray) rfl rfl (by rw [List.size_toArray, hpl.out]; exact size_pkt) (by simpa using PktD.cells_one) 1 H rfl (by rw [List.size_toArray, List.size_toArray, hpl.out]; rfl) (fun w' H => ?_); replace H : At w0 (raw O p.cells.toArray 39 :: F2) w' := H.maskR [false, true]; refine hK _ _ ?_))
      exact bodyPost_ret (v := .tuple #[.agg p.cells.toArray, .int .i64 0]) (results_row_tmp rfl _ rfl (at_blk H 0 rfl) (by kernel_rfl) (by rw [hpl.out]; exact size_pkt) rfl) rfl ⟨by rw [hR.out]; rfl, H.tail.imp I.out.isub⟩
    | succ d =>
      obtain rfl : z = (d : Int) := by omega
      obtain ⟨h, hx⟩ : ∃ h, hops[d]? = some h := ⟨_, List.getElem?_eq_getElem (by rw [← HM.out]; omega)⟩
      have hpl := Lib.hid (PktD.cells_length I.out.ip)
      have h54 := Lib.hid (HopD.cells_length h.2.key h.2.nonce)
      have hdm : (d : Int) < m := by omega
      have ew : IntKind.i64.wrap ((d : Int) - 1) = (d : Int) - 1 := by rw [IntKind.wrap_i64]; omega
      have HX := Lib.hid hx
      obtain ⟨sl, hsl⟩ : ∃ s, s = slotOf h.1 next p box := ⟨_, rfl⟩
      have hslo := Lib.hid (show sl.ok by rw [hsl]; exact slotOf_ok h.2 I.out.iok I.out.ip HBX.out)
      have HSL := Lib.hid hsl
      clear hx hz hsl
      cases hw : wrapOf h.1 p sl eb with
      | none =>
        have hsr := Lib.hid (wrapOf_none hw)
        have hR := Lib.hid (inv_none I.out HX.out (by rw [← HSL.out]; exact hw))
        clear hw
        go_wp2_with ((with_reducible refine wpList_op rfl ?_); intro _ hK; first
          | (refine wp_mid 35 _ rfl (b := ba) (off := off + d * 54) rfl h.1.cells (by kernel_rfl) (by rw [h54.out]; exact size_hop) (I.out.isee.elem el_hop H.tail.tail HX.out) (hK _ _ ?_))
          | (refine wp_alloc_sl 35 rfl info_hop H (fun D w' (H : At w0 (raw D hop0.cells.toArray 35 :: raw P p.cells.toArray 39 :: raw O PktD.zero.cells.toArray 39 :: F2) w') _ => hK _ _ ?_))
          | (refine wp_store_row_sl 35 _ _ rfl (cells := h.1.cells.toArray) rfl rfl (by rw [List.size_toArray, h54.out]; exact size_hop) (by simpa using HopD.cells_one) 0 H rfl (by rw [List.size_toArray, List.size_toArray, h54.out]; rfl) (fun w' (H : At w0 (raw D h.1.cells.toArray 35 :: raw P p.cells.toArray 39 :: raw O PktD.zero.cells.toArray 39 :: F2) w') => hK _ _ ?_)))
        refine wpM_begin [12, 13] ((fun w => At w0 (raw D h.1.cells.toArray 35 :: raw P p.cells.toArray 39 :: raw O PktD.zero.cells.toArray 39 :: F2) w)) [(0, 1), (1, 1), (2, 1), (3, 2), (4, 1), (5, 2), (7, 2), (6, 0), (8, 0), (9, 2), (10, 2), (11, 2), (12, 0), (13, 0)] rfl (by kernel_rfl) (by kernel_rfl) ((H.drew)) ?_
        intro ops hOps hS
        replace H := H.drew
        refine wpM_take hOps hS rfl (fun _ _ _ h => h) (yl_mid rfl 35 _ rfl rfl h.1.cells (by kernel_rfl) (by rw [h54.out]; exact size_hop) (fun w hw => at_blk hw 0 rfl)) ?_
        simp only [nrm]
        refine wpM_take hOps hS rfl (fun _ _ _ h => h) (yl_mid rfl 39 _ rfl rfl p.cells (by kernel_rfl) (by rw [hpl.out]; exact size_pkt) (fun w hw => at_blk hw 1 rfl)) ?_
        simp only [nrm]
        refine wpM_take hOps hS rfl (fun _ _ _ h => h) (yl_mid rfl 35 _ rfl rfl h.1.cells (by kernel_rfl) (by rw [h54.out]; exact size_hop) (fun w hw => at_blk hw 0 rfl)) ?_
        simp only [nrm]
        refine wpM_free hOps rfl (fun _ _ _ h => h) (yl_move rfl _ rfl) ?_
        simp only [nrm]
        refine wpM_take hOps hS rfl (fun _ _ _ h => h) (yl_mid rfl 39 _ rfl rfl p.cells (by kernel_rfl) (by rw [hpl.out]; exact size_pkt) (fun w hw => at_blk hw 1 rfl)) ?_
        simp only [nrm]
        refine wpM_free hOps rfl (fun _ _ _ h => h) (yl_move rfl _ rfl) ?_
        simp only [nrm]
        refine wpM_free hOps rfl (fun _ _ _ h => h) (yl_move rfl _ rfl) ?_
        simp only [nrm]
        refine wpM_next hOps rfl rfl ?_
        intro K hK
        refine wp_call _ _ _ rfl Tryd.func22 rfl (by kernel_rfl) ?_
        simp only [List.map_toArray, List.map_cons, List.map_nil, Act.eval, Array.getD_eq_getD_getElem?, List.getElem?_toArray, List.getElem?_cons_zero, List.getElem?_cons_succ, Option.getD_some]
        refine (slot_c H h.2 I.out.ip (((I.out.inext.more _).more _).more _)).mono ?_; rintro e w' ⟨rfl, H⟩
        rw [← HSL.out]
        have hS := (H)
        refine hK _ _ (.inr hS) ?_
        clear hK K
        simp only [nrm]
        refine wpM_next hOps rfl rfl ?_
        intro K hK
        refine wp_call _ _ _ rfl Tryd.func21 rfl (by kernel_rfl) ?_
        simp only [List.map_toArray, List.map_cons, List.map_nil, Act.eval, Array.getD_eq_getD_getElem?, List.getElem?_toArray, List.getElem?_cons_zero, List.getElem?_cons_succ, Option.getD_some]
        refine (wrap_bad H h.2 I.out.ip hslo.out hsr.out).mono ?_; rintro e w' ⟨rfl, H⟩
        have hS := (H)
        refine hK _ _ (.inr hS) ?_
        clear hK K
        simp only [nrm]
        refine wpM_free hOps rfl (fun _ _ _ h => h) (yl_move rfl _ rfl) ?_
        simp only [nrm]
        refine wpM_free hOps (v := ?vOp1582) rfl (fun _ _ _ h => h) (yl rfl ?yOp1582) ?_
        case yOp1582 => (intro w hw; go_simp; first | done | rfl)
        simp only [nrm]
        refine wpM_free hOps (v := ?vOp1584) rfl (fun _ _ _ h => h) (yl rfl ?yOp1584) ?_
        case yOp1584 => (intro w hw; go_simp; first | done | rfl)
        simp only [nrm]
        refine wpM_next hOps rfl rfl ?_
        intro K hK
        refine wp_store_row_sl 39 _ _ rfl (b := P) (cells := PktD.zero.cells.toArray) rfl rfl (by kernel_rfl) (by simpa using PktD.cells_one) 1 H rfl (by rw [List.size_toArray, List.size_toArray, hpl.out]; rfl) (fun w' H => ?_)
        refine hK _ _ (.inl (by decide)) ?_
        clear hK K
        simp only [nrm]
        refine wpM_next hOps rfl rfl ?_
        intro K hK
        refine wp_run rfl ?_
        refine hK _ _ (.inl (by decide)) ?_
        clear hK K
        simp only [nrm]
        refine wpM_end ?_
        clear hOps hS ops
        replace H : At w0 (raw O PktD.zero.cells.toArray 39 :: F2) w' := H.maskR [false, false, true]
        go_wp2_with ((with_reducible refine wpList_op rfl ?_); intro _ hK; first
          | (refine Hg.wp_build 39 _ rfl (by rw [Array.toList_map]; rfl) (run_buildL places_pkt [] rfl _) (hK _ _ ?_))
          | (refine wp_store_row_sl 39 _ _ rfl (b := O) (cells := PktD.zero.cells.toArray) rfl rfl (by kernel_rfl) (by simpa using PktD.cells_one) 0 H rfl rfl (fun w' (H : At w0 (raw O PktD.zero.cells.toArray 39 :: F2) w') => hK _ _ ?_)))
        exact bodyPost_ret (v := .tuple #[.agg PktD.zero.cells.toArray, .int .i64 1]) (results_row_tmp rfl _ rfl (at_blk H 0 rfl) (by kernel_rfl) (by kernel_rfl) rfl) rfl ⟨by rw [hR.out]; rfl, H.tail.imp I.out.isub⟩
      | some q =>
        have hsr := Lib.hid (wrapOf_some hw)
        have HW := Lib.hid hw
        have hql := Lib.hid (PktD.cells_length (wrapOf_ok h.2 I.out.ip hslo.out I.out.ilen hw))
        clear hw
        go_wp2_with ((with_reducible refine wpList_op rfl ?_); intro _ hK; first
          | (refine wp_mid 35 _ rfl (b := ba) (off := off + d * 54) rfl h.1.cells (by kernel_rfl) (by rw [h54.out]; exact size_hop) (I.out.isee.elem el_hop H.tail.tail HX.out) (hK _ _ ?_))
          | (refine wp_alloc_sl 35 rfl info_hop H (fun D w' (H : At w0 (raw D hop0.cells.toArray 35 :: raw P p.cells.toArray 39 :: raw O PktD.zero.cells.toArray 39 :: F2) w') _ => hK _ _ ?_))
          | (refine wp_store_row_sl 35 _ _ rfl (cells := h.1.cells.toArray) rfl rfl (by rw [List.size_toArray, h54.out]; exact size_hop) (by simpa using HopD.cells_one) 0 H rfl (by rw [List.size_toArray, List.size_toArray, h54.out]; rfl) (fun w' (H : At w0 (raw D h.1.cells.toArray 35 :: raw P p.cells.toArray 39 :: raw O PktD.zero.cells.toArray 39 :: F2) w') => hK _ _ ?_)))
        refine wpM_begin [12, 13] ((fun w => At w0 (raw D h.1.cells.toArray 35 :: raw P p.cells.toArray 39 :: raw O PktD.zero.cells.toArray 39 :: F2) w)) [(0, 1), (1, 1), (2, 1), (3, 2), (4, 1), (5, 2), (7, 2), (6, 0), (8, 0), (9, 2), (10, 2), (11, 2), (12, 0), (13, 0)] rfl (by kernel_rfl) (by kernel_rfl) ((H.drew)) ?_
        intro ops hOps hS
        replace H := H.drew
        refine wpM_take hOps hS rfl (fun _ _ _ h => h) (yl_mid rfl 35 _ rfl rfl h.1.cells (by kernel_rfl) (by rw [h54.out]; exact size_hop) (fun w hw => at_blk hw 0 rfl)) ?_
        simp only [nrm]
        refine wpM_take hOps hS rfl (fun _ _ _ h => h) (yl_mid rfl 39 _ rfl rfl p.cells (by kernel_rfl) (by rw [hpl.out]; exact size_pkt) (fun w hw => at_blk hw 1 rfl)) ?_
        simp only [nrm]
        refine wpM_take hOps hS rfl (fun _ _ _ h => h) (yl_mid rfl 35 _ rfl rfl h.1.cells (by kernel_rfl) (by rw [h54.out]; exact size_hop) (fun w hw => at_blk hw 0 rfl)) ?_
        simp only [nrm]
        refine wpM_free hOps rfl (fun _ _ _ h => h) (yl_move rfl _ rfl) ?_
        simp only [nrm]
        refine wpM_take hOps hS rfl (fun _ _ _ h => h) (yl_mid rfl 39 _ rfl rfl p.cells (by kernel_rfl) (by rw [hpl.out]; exact size_pkt) (fun w hw => at_blk hw 1 rfl)) ?_
        simp only [nrm]
        refine wpM_free hOps rfl (fun _ _ _ h => h) (yl_move rfl _ rfl) ?_
        simp only [nrm]
        refine wpM_free hOps rfl (fun _ _ _ h => h) (yl_move rfl _ rfl) ?_
        simp only [nrm]
        refine wpM_next hOps rfl rfl ?_
        intro K hK
        refine wp_call _ _ _ rfl Tryd.func22 rfl (by kernel_rfl) ?_
        simp only [List.map_toArray, List.map_cons, List.map_nil, Act.eval, Array.getD_eq_getD_getElem?, List.getElem?_toArray, List.getElem?_cons_zero, List.getElem?_cons_succ, Option.getD_some]
        refine (slot_c H h.2 I.out.ip (((I.out.inext.more _).more _).more _)).mono ?_; rintro e w' ⟨rfl, H⟩
        rw [← HSL.out]
        have hS := (H)
        refine hK _ _ (.inr hS) ?_
        clear hK K
        simp only [nrm]
        refine wpM_next hOps rfl rfl ?_
        intro K hK
        refine wp_call _ _ _ rfl Tryd.func21 rfl (by kernel_rfl) ?_
        simp only [List.map_toArray, List.map_cons, List.map_nil, Act.eval, Array.getD_eq_getD_getElem?, List.getElem?_toArray, List.getElem?_cons_zero, List.getElem?_cons_succ, Option.getD_some]
        refine (wrap_good G H h.2 I.out.ip hslo.out hsr.out (((I.out.iend.more _).more _).more _) I.out.ilen HW.out).mono ?_; rintro e w' ⟨rfl, H⟩
        have hS := (H)
        refine hK _ _ (.inr hS) ?_
        clear hK K
        simp only [nrm]
        refine wpM_free hOps rfl (fun _ _ _ h => h) (yl_move rfl _ rfl) ?_
        simp only [nrm]
        refine wpM_free hOps (v := ?vOp1614) rfl (fun _ _ _ h => h) (yl rfl ?yOp1614) ?_
        case yOp1614 => (intro w hw; go_simp; first | done | rfl)
        simp only [nrm]
        refine wpM_free hOps (v := ?vOp1616) rfl (fun _ _ _ h => h) (yl rfl ?yOp1616) ?_
        case yOp1616 => (intro w hw; go_simp; first | done | rfl)
        simp only [nrm]
        refine wpM_next hOps rfl rfl ?_
        intro K hK
        refine wp_store_row_sl 39 _ _ rfl (b := P) (cells := q.cells.toArray) rfl rfl (by rw [List.size_toArray, hql.out]; exact size_pkt) (by simpa using PktD.cells_one) 1 H rfl (by rw [List.size_toArray, List.size_toArray, hpl.out, hql.out]) (fun w' H => ?_)
        refine hK _ _ (.inl (by decide)) ?_
        clear hK K
        simp only [nrm]
        refine wpM_next hOps rfl rfl ?_
        intro K hK
        refine wp_run rfl ?_
        refine hK _ _ (.inl (by decide)) ?_
        clear hK K
        simp only [nrm]
        refine wpM_end ?_
        clear hOps hS ops
        replace H : At w0 (raw P q.cells.toArray 39 :: raw O PktD.zero.cells.toArray 39 :: raw D h.1.cells.toArray 35 :: F2) w' := (((H).pull 2 rfl).pull 2 rfl)
        go_wp2_with fail
        first
          | (refine ⟨?_, ?measure⟩; iterate 220 (try apply Exists.intro); refine ⟨?rel, rfl⟩)
          | refine ⟨?rel, ?measure⟩
        case rel => exact ⟨_, _, _, q, d, _, by omega, rfl, by omega, inv_next I.out HX.out (by rw [← HSL.out]; exact HW.out) HBX.out, H⟩
        case measure => simp [intOf]
/-- A packet for its first hop, or none. -/
theorem build_c {w0 w : World} {F : List SP} {v : Value} {hops : List HopO} {box : Nat} {body : List (BitVec 8)} (G : Glob w0) (H : At w0 F w) (hv : SeeL 54 hopC w0 F v hops) (hb : body.length = 256) (hbox : box < 65536) :
    Calls Tryd.prog 10 #[v, .int .u16 (box : Int), .agg (v8 body).toArray] w fun r w' => r = .returned (.tuple #[.agg (BldP (buildOf (hops.map (·.1)) box body)).cells.toArray, .int .i64 (BldE (buildOf (hops.map (·.1)) box body))]) ∧ At w0 F w' := by
  by_cases h : hops.length < 1 ∨ 5 < hops.length
  · obtain ⟨a, cap, rfl, hcap, _⟩ := hv.slice
    have e : buildOf (hops.map (·.1)) box body = none := by
      unfold buildOf
      rw [if_pos (by rw [List.length_map]; exact h)]
    rw [e]
    exact build_bad H hb (by omega)
  · exact build_good G H hv hb hbox (by omega) (by omega)
end Go.Proofs.YtgdphamdbpkjdaaDoor
