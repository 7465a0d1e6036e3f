import Derived.Test.YtmflbekabkainaaGreatDoorProg
import Derived.Test.YtmflbekabkainaaGreatDoorQHgA
set_option linter.unusedVariables false
set_option linter.unusedSimpArgs false
namespace Go.Proofs.YtmflbekabkainaaGreatDoor.Mb
open Go.RowKit Go.Hg
abbrev Body := List UInt8
def bls (xs : List Body) : List Value := xs.flatMap bl
def zb : Body := List.replicate 256 0
def Full (xs : List Body) : Prop := ∀ x ∈ xs, x.length = 256
theorem Full.drop {xs : List Body} (h : Full xs) (q : Nat) : Full (xs.drop q) := fun x hx => h x (List.mem_of_mem_drop hx)
theorem Full.take {xs : List Body} (h : Full xs) (q : Nat) : Full (xs.take q) := fun x hx => h x (List.mem_of_mem_take hx)
theorem under_bodies : Tryz.prog.underlying 119 = some (.slice 87) := by kernel_rfl
theorem under_boxes : Tryz.prog.underlying 133 = some (.slice 119) := by kernel_rfl
theorem under_body : Tryz.prog.underlying 87 = some (.array 256 5) := by kernel_rfl
theorem info_body : (Tryz.prog.info? 87).map (fun i => (i.zero, i.size, i.bytes)) = some (some (.agg (bv zb)), 256, 256) := by kernel_rfl
theorem info_bodies : (Tryz.prog.info? 119).map (fun i => (i.zero, i.size, i.bytes)) = some (some (.slice none 0 0), 1, 24) := by kernel_rfl
set_option maxRecDepth 10000 in
set_option maxHeartbeats 400000 in
theorem box_none (bp bs n : Nat) (k : Int) (w : World) (hn : (n : Int) ≤ k) (h0 : 0 ≤ k) (hk : k < 65536) (hb : w.cell? ⟨bp, 0, none⟩ = some (.slice (some ⟨bs, 0, none⟩) n n)) :
    Calls Tryz.prog 47 #[.pointer (some ⟨bp, 0, none⟩), .int .u16 k] w fun e w' => e = .returned (.pointer none) ∧ w = w' := by
 go_enter Tryz.func47, Tryz.ntmps47
 go_wp2
 go_ret
 exact ⟨rfl, rfl⟩
set_option maxRecDepth 10000 in
set_option maxHeartbeats 400000 in
theorem box_some (bp bs n : Nat) (k : Int) (w : World) (hn : k < (n : Int)) (h0 : 0 ≤ k) (hk : k < 65536) (hb : w.cell? ⟨bp, 0, none⟩ = some (.slice (some ⟨bs, 0, none⟩) n n)) :
    Calls Tryz.prog 47 #[.pointer (some ⟨bp, 0, none⟩), .int .u16 k] w fun e w' => e = .returned (.pointer (some ⟨bs, k.toNat, none⟩)) ∧ w = w' := by
 go_enter Tryz.func47, Tryz.ntmps47
 go_wp2
 go_ret
 exact ⟨rfl, rfl⟩
set_option maxRecDepth 10000 in
set_option maxHeartbeats 400000 in
theorem len_none (bp bs n : Nat) (k : Int) (w : World) (hn : (n : Int) ≤ k) (h0 : 0 ≤ k) (hk : k < 65536) (hb : w.cell? ⟨bp, 0, none⟩ = some (.slice (some ⟨bs, 0, none⟩) n n)) :
    Calls Tryz.prog 26 #[.pointer (some ⟨bp, 0, none⟩), .int .u16 k] w fun e w' => e = .returned (.int .i64 0) ∧ w = w' := by
 go_enter Tryz.func26, Tryz.ntmps26
 go_wp2_with (go_at_call 47; refine (box_none _ _ _ _ _ hn h0 hk hb).mono ?_; rintro e w' ⟨rfl, rfl⟩)
 go_ret
 exact ⟨rfl, rfl⟩
set_option maxRecDepth 10000 in
set_option maxHeartbeats 400000 in
theorem len_some (bp bs n : Nat) (k : Int) (w : World) (hn : k < (n : Int)) (h0 : 0 ≤ k) (hk : k < 65536) (hb : w.cell? ⟨bp, 0, none⟩ = some (.slice (some ⟨bs, 0, none⟩) n n))
    (a : Option Addr) (m c : Nat) (hv : w.cell? ⟨bs, k.toNat, none⟩ = some (.slice a m c)) :
    Calls Tryz.prog 26 #[.pointer (some ⟨bp, 0, none⟩), .int .u16 k] w fun e w' => e = .returned (.int .i64 m) ∧ w = w' := by
 go_enter Tryz.func26, Tryz.ntmps26
 go_wp2_with (go_at_call 47; refine (box_some _ _ _ _ _ hn h0 hk hb).mono ?_; rintro e w' ⟨rfl, rfl⟩)
 go_ret
 exact ⟨rfl, rfl⟩
set_option maxRecDepth 10000 in
set_option maxHeartbeats 400000 in
theorem put_none (bp bs n : Nat) (k : Int) (w0 w : World) (LL : List SP) (b : Body) (hn : (n : Int) ≤ k) (h0 : 0 ≤ k) (hk : k < 65536) (hb : w.heap[bp]? = some (.cells #[.slice (some ⟨bs, 0, none⟩) n n] 135 (0, 0))) (H : At w0 LL w) :
    Calls Tryz.prog 43 #[.pointer (some ⟨bp, 0, none⟩), .int .u16 k, .agg (bv b)] w fun e w' => e = .returned (.int .i64 10) ∧ At w0 LL w' := by
 go_enter Tryz.func43, Tryz.ntmps43
 go_wp2_with ((with_reducible refine wpList_op rfl ?_); intro _ hK; refine wp_box_sl (v := .agg (bv b)) _ _ rfl rfl H (fun B w' (H : At w0 (raw B (bv b) 87 :: _) w') G => hK _ _ ?_))
 have hb2 := (G.block bp (Array.getElem?_eq_some_iff.1 hb).1).trans hb
 refine (box_none _ _ _ _ _ hn h0 hk ((raw_cell hb2 0).trans rfl)).mono ?_; rintro e w' ⟨rfl, rfl⟩
 go_wp2
 go_ret
 exact ⟨rfl, H.tail⟩
set_option maxRecDepth 10000 in
set_option maxHeartbeats 400000 in
theorem put_full (w0 : World) (LL : List SP) (bp bs n : Nat) (vs : Array Value) (k : Int) (w : World) (hn : k < (n : Int)) (h0 : 0 ≤ k) (hk : k < 65536) (b : Body)
    (v : Value) (xs : List Body) (hm : (64 : Int) ≤ xs.length) (hv : vs[k.toNat]? = some v)
    (H : At w0 (rows 87 256 v xs.length (bls xs) :: raw bp #[.slice (some ⟨bs, 0, none⟩) n n] 135 :: raw bs vs 119 :: LL) w) :
    Calls Tryz.prog 43 #[.pointer (some ⟨bp, 0, none⟩), .int .u16 k, .agg (bv b)] w fun e w' => e = .returned (.int .i64 8) ∧
     At w0 (rows 87 256 v xs.length (bls xs) :: raw bp #[.slice (some ⟨bs, 0, none⟩) n n] 135 :: raw bs vs 119 :: LL) w' := by
 obtain ⟨a, c, rfl⟩ := H.rows_slice
 go_enter Tryz.func43, Tryz.ntmps43
 go_wp2_with ((with_reducible refine wpList_op rfl ?_); intro _ hK; refine wp_box_sl (v := .agg (bv b)) _ _ rfl rfl H (fun B w' (H : At w0 (raw B (bv b) 87 :: _) w') _ => hK _ _ ?_))
 refine (box_some _ _ _ _ _ hn h0 hk ((raw_cell (H.heap 2 rfl) 0).trans rfl)).mono ?_; rintro e w' ⟨rfl, rfl⟩
 have hc := (raw_cell (H.heap 3 rfl) k.toNat).trans hv
 go_wp2
 go_ret
 exact ⟨rfl, H.tail⟩
set_option maxRecDepth 10000 in
set_option maxHeartbeats 400000 in
theorem put_ok (w0 : World) (LL : List SP) (bp bs n : Nat) (vs : Array Value) (k : Int) (w : World) (hn : k < (n : Int)) (h0 : 0 ≤ k) (hk : k < 65536) (b : Body) (hb : b.length = 256)
    (v : Value) (xs : List Body) (hm : (xs.length : Int) < 64) (hv : vs[k.toNat]? = some v)
    (H : At w0 (rows 87 256 v xs.length (bls xs) :: raw bp #[.slice (some ⟨bs, 0, none⟩) n n] 135 :: raw bs vs 119 :: LL) w) :
    Calls Tryz.prog 43 #[.pointer (some ⟨bp, 0, none⟩), .int .u16 k, .agg (bv b)] w fun e w' => ∃ v', e = .returned (.int .i64 0) ∧
     At w0 (rows 87 256 v' (xs.length + 1) (bls (xs ++ [b])) :: raw bp #[.slice (some ⟨bs, 0, none⟩) n n] 135 :: raw bs (vs.setIfInBounds k.toNat v') 119 :: LL) w' := by
 obtain ⟨a, c, rfl⟩ := H.rows_slice
 obtain ⟨i, hi, hz, hsz, hby⟩ := info_of info_body
 have hlt : k.toNat < vs.size := (Array.getElem?_eq_some_iff.1 hv).1
 go_enter Tryz.func43, Tryz.ntmps43
 go_wp2_with ((with_reducible refine wpList_op rfl ?_); intro _ hK; refine wp_box_sl (v := .agg (bv b)) _ _ rfl rfl H (fun B w' (H : At w0 (raw B (bv b) 87 :: _) w') _ => hK _ _ ?_))
 refine (box_some _ _ _ _ _ hn h0 hk ((raw_cell (H.heap 2 rfl) 0).trans rfl)).mono ?_; rintro e w' ⟨rfl, rfl⟩
 have hc := (raw_cell (H.heap 3 rfl) k.toNat).trans hv
 go_wp2_with fail
 clear hc
 refine wpL_begin 8 (At w0 [raw B (bv b) 87, raw bs vs 119]) [(0, true), (1, true), (2, true), (3, true), (4, true), (5, false), (6, false), (7, true), (8, false)] rfl (by kernel_rfl) (by kernel_rfl) (H.drew.mask [true, false, false, true]) ?_
 intro ops hOps hS
 replace H := H.drew
 iterate 3 refine fl hOps hS ?_
 refine wpL_take hOps hS rfl (fun _ _ _ h => h) (yl_load rfl _ _ rfl _ rfl _ under_bodies rfl _ (fun w hw => (raw_cell (hw.heap 1 rfl) _).trans hv)) ?_
 simp only [nrm]
 refine wpL_take hOps hS rfl (fun _ _ _ h => h) (yl_load_row rfl _ _ rfl _ rfl _ _ _ _ under_body rfl (by rw [hi]; simp [hsz, bv_size, hb]) (fun w hw => hw.heap 0 rfl)) ?_
 simp only [nrm]
 refine wpL_next hOps rfl rfl ?_
 intro K hK
 refine wp_buildSlice_sl (v := .agg (bv b)) _ _ rfl under_bodies info_body (by simp [Value.cells, bv_size, zb]) rfl (by simp [Value.cells, bv_size, hb]) (by omega) (by omega) H fun C w' H _ => ?_
 have hS := (H.mask [false, true, false, false, true])
 refine hK _ _ hS ?_
 clear hK K
 simp only [nrm]
 refine wpL_next hOps rfl rfl ?_
 intro K hK
 have H' := H.pull 2 (P := rows 87 256 (.slice a xs.length c) xs.length (bls xs)) rfl
 refine owp ?_
 refine wp_append_sl (size := 256) (v := .slice a xs.length c) (n := xs.length) (xs := bls xs) (x := .slice (some ⟨C, 0, none⟩) 1 1) (m := 1) (news := bl b) _ _ _ _ rfl i (.agg (bv zb)) 256 under_bodies (.inl ⟨_, under_bodies⟩) hi hz hsz hby (by simp [Value.cells, bv_size, zb]) rfl H' rfl
  (Src.some (by rw [bl_length, hb]) (fun j u h => ?_) (one_bl b)) (by simp only [maxLen]; omega) (by omega) ?_
 · rw [Addr.add_lit, raw_cell (H.heap 0 rfl), Nat.zero_add]
   simpa [Value.cells, bv] using h
 · clear H' H
   intro v' w' H _
   have hS := (H.mask [false, false, true, false, true])
   refine hK _ _ hS ?_
   clear hK K
   simp only [nrm]
   refine fl hOps hS ?_
   refine wpL_last hOps rfl rfl ?_
   intro K hK
   refine wp_store_sl _ _ _ rfl (v := v') rfl rfl (by kernel_rfl) H.rows_one 4 H rfl hlt fun w' H => ?_
   refine hK _ _ ?_
   clear hK K hOps hS ops
   simp only [nrm]
   go_wp2
   go_ret
   refine ⟨v', rfl, ?_⟩
   have e : bls xs ++ bl b = bls (xs ++ [b]) := by simp [bls]
   rw [← e]
   exact H.maskR [true, false, false, true, true]
def boxes : List Value → List (List Body) → List SP := List.zipWith fun v xs => rows 87 256 v xs.length (bls xs)
def mail (bp : Nat) (L : List (List Body)) : SP := fun h => ∃ bs vs, vs.length = L.length ∧ seps (raw bp #[.slice (some ⟨bs, 0, none⟩) L.length L.length] 135 :: raw bs vs.toArray 119 :: boxes vs L) h
def MailOK (L : List (List Body)) : Prop := L.length ≤ 64 ∧ ∀ xs ∈ L, xs.length ≤ 64 ∧ Full xs
theorem mail_open {w0 w : World} {F : List SP} {bp : Nat} {L : List (List Body)} (H : At w0 (mail bp L :: F) w) : ∃ bs vs, vs.length = L.length ∧
    At w0 (raw bp #[.slice (some ⟨bs, 0, none⟩) L.length L.length] 135 :: raw bs vs.toArray 119 :: (boxes vs L ++ F)) w := by
 obtain ⟨b, h, ⟨h1, h2, ⟨bs, vs, e, s⟩, q, r⟩, t, u⟩ := H
 exact ⟨bs, vs, e, b, h, seps_join (raw bp #[.slice (some ⟨bs, 0, none⟩) L.length L.length] 135 :: raw bs vs.toArray 119 :: boxes vs L) h ⟨h1, h2, s, q, r⟩, t, u⟩
theorem mail_shut {F : List SP} {bp bs : Nat} {vs : List Value} {L : List (List Body)} (e : vs.length = L.length) (h : Hp)
    (H : seps (raw bp #[.slice (some ⟨bs, 0, none⟩) L.length L.length] 135 :: raw bs vs.toArray 119 :: (boxes vs L ++ F)) h) : seps (mail bp L :: F) h :=
 sep_mono (seps_split (raw bp #[.slice (some ⟨bs, 0, none⟩) L.length L.length] 135 :: raw bs vs.toArray 119 :: boxes vs L) h H) (fun _ s => ⟨bs, vs, e, s⟩) (fun _ s => s)
attribute [irreducible] mail
theorem boxes_at {vs : List Value} {L : List (List Body)} {k : Nat} {v : Value} {xs : List Body} (hv : vs[k]? = some v) (hx : L[k]? = some xs) : (boxes vs L)[k]? = some (rows 87 256 v xs.length (bls xs)) := by
 simp [boxes, List.getElem?_zipWith, hv, hx]
theorem boxes_set : ∀ (vs : List Value) (L : List (List Body)) (k : Nat) (v : Value) (xs : List Body), (boxes (vs.set k v) (L.set k xs)) = (boxes vs L).set k (rows 87 256 v xs.length (bls xs))
 | [], L, k, v, xs => by simp [boxes]
 | _ :: _, [], k, v, xs => by simp [boxes]
 | u :: vs, ys :: L, 0, v, xs => by simp [boxes]
 | u :: vs, ys :: L, k + 1, v, xs => by
  have := boxes_set vs L k v xs
  simp only [boxes, List.zipWith_cons_cons, List.set_cons_succ] at this ⊢
  rw [this]
theorem mail_box {w0 w : World} {F : List SP} {bp : Nat} {L : List (List Body)} (H : At w0 (mail bp L :: F) w) {k : Nat} {xs : List Body} (hx : L[k]? = some xs) :
    ∃ bs vs v R, (vs : Array Value)[k]? = some v ∧ At w0 (rows 87 256 v xs.length (bls xs) :: raw bp #[.slice (some ⟨bs, 0, none⟩) L.length L.length] 135 :: raw bs vs 119 :: R) w ∧
     ∀ v' xs' h, seps (rows 87 256 v' xs'.length (bls xs') :: raw bp #[.slice (some ⟨bs, 0, none⟩) L.length L.length] 135 :: raw bs (vs.setIfInBounds k v') 119 :: R) h → seps (mail bp (L.set k xs') :: F) h := by
 obtain ⟨bs, vs, e, H⟩ := mail_open H
 obtain ⟨hk, _⟩ := List.getElem?_eq_some_iff.1 hx
 have hkv : k < vs.length := by omega
 have hv : vs[k]? = some vs[k] := List.getElem?_eq_getElem hkv
 have hb := boxes_at hv hx
 obtain ⟨hkb, _⟩ := List.getElem?_eq_some_iff.1 hb
 have H2 := H.pull (2 + k) (P := rows 87 256 vs[k] xs.length (bls xs)) (by
  rw [Nat.add_comm]
  simp only [List.getElem?_cons_succ]
  rw [List.getElem?_append_left hkb]
  exact hb)
 refine ⟨bs, vs.toArray, vs[k], (boxes vs L).eraseIdx k ++ F, by simp [hkv], ?_, ?_⟩
 · have e2 : (raw bp #[.slice (some ⟨bs, 0, none⟩) L.length L.length] 135 :: raw bs vs.toArray 119 :: (boxes vs L ++ F)).eraseIdx (2 + k) = raw bp #[.slice (some ⟨bs, 0, none⟩) L.length L.length] 135 :: raw bs vs.toArray 119 :: ((boxes vs L).eraseIdx k ++ F) := by
     rw [Nat.add_comm]
     simp only [List.eraseIdx_cons_succ]
     rw [List.eraseIdx_append_of_lt_length hkb]
   rw [e2] at H2
   exact H2
 · intro v' xs' h H3
   refine mail_shut (vs := vs.set k v') (bs := bs) (by simp [e]) h ?_
   rw [boxes_set]
   have e3 : (L.set k xs').length = L.length := by simp
   rw [e3]
   have H4 : seps (raw bp #[.slice (some ⟨bs, 0, none⟩) L.length L.length] 135 :: raw bs (vs.toArray.setIfInBounds k v') 119 :: (rows 87 256 v' xs'.length (bls xs') :: ((boxes vs L).eraseIdx k ++ F))) h :=
    seps_perm ((List.Perm.swap _ _ _).trans (.cons _ (.swap _ _ _))) h H3
   have e4 : (vs.set k v').toArray = vs.toArray.setIfInBounds k v' := by simp
   rw [e4]
   refine seps_perm (.cons _ (.cons _ ?_)) h H4
   have h5 := perm_erase ((boxes vs L).set k (rows 87 256 v' xs'.length (bls xs'))) k (rows 87 256 v' xs'.length (bls xs')) (by simp [hkb])
   rw [List.eraseIdx_set_eq] at h5
   exact h5.append_right F
def putE (L : List (List Body)) (k : Nat) : Int := if L.length ≤ k then 10 else if 64 ≤ (L.getD k []).length then 8 else 0
def putL (L : List (List Body)) (k : Nat) (b : Body) : List (List Body) := if L.length ≤ k then L else if 64 ≤ (L.getD k []).length then L else L.set k (L.getD k [] ++ [b])
def lenM (L : List (List Body)) (k : Nat) : Nat := (L.getD k []).length
theorem getD_of {L : List (List Body)} {k : Nat} {xs : List Body} (h : L[k]? = some xs) : L.getD k [] = xs := by simp [List.getD, h]
theorem put_c {w0 w : World} {F : List SP} {bp : Nat} {L : List (List Body)} (H : At w0 (mail bp L :: F) w) (hM : MailOK L) (k : Int) (h0 : 0 ≤ k) (hk : k < 65536) (b : Body) (hb : b.length = 256) :
    Calls Tryz.prog 43 #[.pointer (some ⟨bp, 0, none⟩), .int .u16 k, .agg (bv b)] w fun e w' => e = .returned (.int .i64 (putE L k.toNat)) ∧ At w0 (mail bp (putL L k.toNat b) :: F) w' := by
 unfold putE putL
 by_cases hn : L.length ≤ k.toNat
 · rw [if_pos hn, if_pos hn]
   obtain ⟨bs, vs, e, H2⟩ := mail_open H
   exact put_none bp bs L.length k w0 w _ b (by omega) h0 hk (H2.heap 0 rfl) H
 · rw [if_neg hn, if_neg hn]
   have hx : L[k.toNat]? = some L[k.toNat] := List.getElem?_eq_getElem (by omega)
   obtain ⟨bs, vs, v, R, hv, H2, shut⟩ := mail_box H hx
   rw [getD_of hx]
   by_cases hf : 64 ≤ (L[k.toNat]'(by omega)).length
   · rw [if_pos hf, if_pos hf]
     refine (put_full w0 R bp bs L.length vs k w (by omega) h0 hk b v _ (by omega) hv H2).mono ?_
     rintro e w' ⟨rfl, H3⟩
     refine ⟨rfl, ?_⟩
     have hset : vs.setIfInBounds k.toNat v = vs := by
      apply Array.ext_getElem?
      intro j
      rw [Array.getElem?_setIfInBounds]
      split
      · rename_i hj; subst hj; split <;> simp_all
      · rfl
     have := H3.imp (L' := mail bp (L.set k.toNat L[k.toNat]) :: F) (fun h s => shut v L[k.toNat] h (by rw [hset]; exact s))
     rwa [List.set_getElem_self] at this
   · rw [if_neg hf, if_neg hf]
     refine (put_ok w0 R bp bs L.length vs k w (by omega) h0 hk b hb v _ (by omega) hv H2).mono ?_
     rintro e w' ⟨v', rfl, H3⟩
     exact ⟨rfl, H3.imp fun h s => shut v' _ h (by simpa using s)⟩
theorem len_c {w0 w : World} {F : List SP} {bp : Nat} {L : List (List Body)} (H : At w0 (mail bp L :: F) w) (k : Int) (h0 : 0 ≤ k) (hk : k < 65536) :
    Calls Tryz.prog 26 #[.pointer (some ⟨bp, 0, none⟩), .int .u16 k] w fun e w' => e = .returned (.int .i64 (lenM L k.toNat)) ∧ w = w' := by
 unfold lenM
 by_cases hn : L.length ≤ k.toNat
 · obtain ⟨bs, vs, e, H2⟩ := mail_open H
   have e0 : L.getD k.toNat [] = [] := by simp [List.getD, List.getElem?_eq_none hn]
   rw [e0]
   exact len_none bp bs L.length k w (by omega) h0 hk ((raw_cell (H2.heap 0 rfl) 0).trans rfl)
 · have hx : L[k.toNat]? = some L[k.toNat] := List.getElem?_eq_getElem (by omega)
   obtain ⟨bs, vs, v, R, hv, H2, shut⟩ := mail_box H hx
   rw [getD_of hx]
   obtain ⟨a, c, rfl⟩ := H2.rows_slice
   exact len_some bp bs L.length k w (by omega) h0 hk ((raw_cell (H2.heap 1 rfl) 0).trans rfl) a _ c ((raw_cell (H2.heap 2 rfl) _).trans hv)
theorem new_law (n : Nat) (k : Int) (hk : k = n) (hn : n ≤ 64) : ∀ w, (Instr.makeSlice 133 (.int .i64 k) (.int .i64 k)).run Tryz.prog w =
    .ok (.slice (some ⟨w.heap.size, 0, none⟩) n n) (w.alloc (.cells (madeCells #[.slice none 0 0] n) 119)) := by
 subst hk
 exact run_make_row' (P := Tryz.prog) 133 119 (.slice none 0 0) 24 under_boxes info_bodies rfl .i64 .i64 n (by omega) (by omega)
def NewPost (n : Nat) (w : World) (e : Ending) (w' : World) : Prop := e = .returned (.pointer (some ⟨w.heap.size + 1, 0, none⟩)) ∧ w' = (w.alloc (.cells (madeCells #[.slice none 0 0] n) 119)).alloc (.cells #[.slice (some ⟨w.heap.size, 0, none⟩) n n] 135)
set_option maxRecDepth 10000 in
set_option maxHeartbeats 400000 in
theorem new_mid (n : Nat) (w : World) (hn : n ≤ 64) : Calls Tryz.prog 31 #[.int .i64 n] w (NewPost n w) := by
 have hmk := new_law n n rfl hn
 go_enter Tryz.func31, Tryz.ntmps31
 go_wp2
 go_ret
 exact ⟨rfl, rfl⟩
set_option maxRecDepth 10000 in
set_option maxHeartbeats 400000 in
theorem new_neg (z : Int) (w : World) (hn : z < 0) : Calls Tryz.prog 31 #[.int .i64 z] w (NewPost 0 w) := by
 have hmk := new_law 0 0 rfl (by omega)
 go_enter Tryz.func31, Tryz.ntmps31
 go_wp2
 go_ret
 exact ⟨rfl, rfl⟩
set_option maxRecDepth 10000 in
set_option maxHeartbeats 400000 in
theorem new_big (z : Int) (w : World) (hn : 64 < z) : Calls Tryz.prog 31 #[.int .i64 z] w (NewPost 64 w) := by
 have hmk := new_law 64 64 rfl (by omega)
 go_enter Tryz.func31, Tryz.ntmps31
 go_wp2
 go_ret
 exact ⟨rfl, rfl⟩
def newL (z : Int) : List (List Body) := List.replicate (min z.toNat 64) []
theorem boxes_empty (n : Nat) : ∀ P ∈ boxes (List.replicate n (.slice none 0 0)) (List.replicate n []), ∀ h, P h := by
 intro P hP h
 simp [boxes] at hP
 obtain ⟨_, rfl⟩ := hP
 have : rows 87 256 (.slice none 0 0) 0 [] h := by rw [rows_nil]; trivial
 simpa [bls] using this
theorem At.many {w0 w : World} {F : List SP} (H : At w0 F w) : ∀ (M : List SP), (∀ P ∈ M, ∀ h, P h) → At w0 (M ++ F) w
 | [], _ => H
 | P :: M, hM => ((At.many H M fun Q hQ => hM Q (by simp [hQ])).mk_fact (p := True) trivial).imp1 fun h _ => hM P (by simp) h
theorem NewPost.at_ {w0 w : World} {F : List SP} (H : At w0 F w) {n : Nat} {e : Ending} {w' : World} (h : NewPost n w e w') : ∃ bp, e = .returned (.pointer (some ⟨bp, 0, none⟩)) ∧ At w0 (mail bp (List.replicate n []) :: F) w' := by
 obtain ⟨rfl, rfl⟩ := h
 refine ⟨_, rfl, ?_⟩
 have e1 : madeCells #[.slice none 0 0] n = (List.replicate n (Value.slice none 0 0)).toArray := by
  apply Array.ext'
  rw [toList_madeCells_one]
 rw [e1]
 have H2 := (At.many H _ (boxes_empty n)).alloc (.cells (List.replicate n (Value.slice none 0 0)).toArray 119)
 have H3 := H2.alloc (.cells #[.slice (some ⟨w.heap.size, 0, none⟩) n n] 135)
 rw [World.size_alloc] at H3
 refine H3.imp fun h s => mail_shut (bs := w.heap.size) (vs := List.replicate n (.slice none 0 0)) (by simp) h ?_
 simpa using s
theorem new_c {w0 w : World} {F : List SP} (H : At w0 F w) (z : Int) :
    Calls Tryz.prog 31 #[.int .i64 z] w fun e w' => ∃ bp, e = .returned (.pointer (some ⟨bp, 0, none⟩)) ∧ At w0 (mail bp (newL z) :: F) w' := by
 unfold newL
 by_cases h1 : z < 0
 · refine (new_neg z w h1).mono fun e w' h => ?_
   have e0 : min z.toNat 64 = 0 := by omega
   rw [e0]
   exact h.at_ H
 · by_cases h2 : 64 < z
   · refine (new_big z w h2).mono fun e w' h => ?_
     have e0 : min z.toNat 64 = 64 := by omega
     rw [e0]
     exact h.at_ H
   · obtain ⟨n, rfl⟩ := Int.eq_ofNat_of_zero_le (by omega : 0 ≤ z)
     refine (new_mid n w (by omega)).mono fun e w' h => ?_
     have e0 : min (n : Int).toNat 64 = n := by omega
     rw [e0]
     exact h.at_ H
theorem MailOK.new (z : Int) : MailOK (newL z) := by
 refine ⟨by simp [newL]; omega, fun xs hx => ?_⟩
 simp [newL] at hx
 obtain ⟨_, rfl⟩ := hx
 exact ⟨by simp, fun x hx => by simp at hx⟩
theorem MailOK.getD {L : List (List Body)} (h : MailOK L) (k : Nat) : (L.getD k []).length ≤ 64 ∧ Full (L.getD k []) := by
 by_cases hk : k < L.length
 · have e : L.getD k [] = L[k] := getD_of (List.getElem?_eq_getElem hk)
   rw [e]
   exact h.2 _ (List.getElem_mem hk)
 · have e : L.getD k [] = [] := by simp [List.getD, List.getElem?_eq_none (by omega : L.length ≤ k)]
   rw [e]
   exact ⟨by simp, fun x hx => by simp at hx⟩
theorem MailOK.set {L : List (List Body)} (h : MailOK L) (k : Nat) {xs : List Body} (h1 : xs.length ≤ 64) (h2 : Full xs) : MailOK (L.set k xs) :=
 ⟨by simpa using h.1, fun ys hy => by
  rcases List.mem_or_eq_of_mem_set hy with h3 | rfl
  · exact h.2 _ h3
  · exact ⟨h1, h2⟩⟩
theorem MailOK.put {L : List (List Body)} (h : MailOK L) (k : Nat) {b : Body} (hb : b.length = 256) : MailOK (putL L k b) := by
 unfold putL
 split
 · exact h
 · split
   · exact h
   · have h1 := h.getD k
     refine h.set k (by rw [List.length_append, List.length_cons, List.length_nil]; omega) fun x hx => ?_
     simp at hx
     rcases hx with hx | rfl
     · exact h1.2 x hx
     · exact hb
end Go.Proofs.YtmflbekabkainaaGreatDoor.Mb
