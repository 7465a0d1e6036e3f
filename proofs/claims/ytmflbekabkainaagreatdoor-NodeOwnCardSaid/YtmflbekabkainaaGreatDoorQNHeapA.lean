import Derived.Test.YtmflbekabkainaaGreatDoorProg
import Derived.Test.YtmflbekabkainaaGreatDoorQNHeapS
set_option linter.unusedVariables false
set_option linter.unusedSimpArgs false
namespace Go.Proofs.YtmflbekabkainaaGreatDoor
open Go.RowKit Go.Hg
theorem under_ints : Tryz.prog.underlying 243 = some (.slice 3) := by kernel_rfl
theorem info_int : (Tryz.prog.info? 3).map (fun i => (i.zero, i.size, i.bytes)) = some (some (.int .i64 0), 1, 8) := by kernel_rfl
def cmpI (x y : Int) : Int := if x < y then -1 else if y < x then 1 else 0
set_option maxRecDepth 10000 in
set_option maxHeartbeats 400000 in
theorem isNaN_c (x : Int) (w : World) : Calls Tryz.prog 135 #[.int .u64 x] w fun e w' => e = .returned (.bool false) ∧ w = w' := by
 go_enter Tryz.func135, Tryz.ntmps135
 go_wp2
 go_ret
 exact ⟨by simp, rfl⟩
set_option maxRecDepth 10000 in
set_option maxHeartbeats 400000 in
theorem compare_c (x y : Int) (w : World) : Calls Tryz.prog 125 #[.int .u64 x, .int .u64 y] w fun e w' => e = .returned (.int .i64 (cmpI x y)) ∧ w = w' := by
 unfold cmpI
 by_cases h1 : x < y
 · rw [if_pos h1]
   go_enter Tryz.func125, Tryz.ntmps125
   go_wp2_with fail
   refine (isNaN_c _ _).mono ?_; rintro e w' ⟨rfl, rfl⟩
   go_wp2_with fail
   refine (isNaN_c _ _).mono ?_; rintro e w' ⟨rfl, rfl⟩
   go_wp2
   go_ret
   exact ⟨rfl, rfl⟩
 · rw [if_neg h1]
   by_cases h2 : y < x
   · rw [if_pos h2]
     go_enter Tryz.func125, Tryz.ntmps125
     go_wp2_with fail
     refine (isNaN_c _ _).mono ?_; rintro e w' ⟨rfl, rfl⟩
     go_wp2_with fail
     refine (isNaN_c _ _).mono ?_; rintro e w' ⟨rfl, rfl⟩
     go_wp2
     go_ret
     exact ⟨rfl, rfl⟩
   · rw [if_neg h2]
     go_enter Tryz.func125, Tryz.ntmps125
     go_wp2_with fail
     refine (isNaN_c _ _).mono ?_; rintro e w' ⟨rfl, rfl⟩
     go_wp2_with fail
     refine (isNaN_c _ _).mono ?_; rintro e w' ⟨rfl, rfl⟩
     go_wp2
     go_ret
     exact ⟨rfl, rfl⟩
set_option maxRecDepth 10000 in
set_option maxHeartbeats 400000 in
theorem or_c {w0 w : World} {L : List SP} {C : Nat} {p q : Int} (H : At w0 (raw C #[.int .i64 p, .int .i64 q] 3 :: L) w) :
    Calls Tryz.prog 124 #[.slice (some ⟨C, 0, none⟩) 2 2] w fun e w' => e = .returned (.int .i64 (if p = 0 then q else p)) ∧ w = w' := by
 have c0 : w.cell? ⟨C, 0, none⟩ = some (.int .i64 p) := raw_at (H.heap 0 rfl) rfl
 have c1 : w.cell? ⟨C, 1, none⟩ = some (.int .i64 q) := raw_at (H.heap 0 rfl) rfl
 go_enter Tryz.func124, Tryz.ntmps124
 go_wp2_with fail
 go_loop [8] (fun i => ∃ j : Nat, j ≤ 2 ∧ i = .int .i64 j ∧ (1 ≤ j → p = 0) ∧ (2 ≤ j → q = 0)) (fun i => 2 - (intOf i).toNat)
 case atStart => exact ⟨0, by omega, rfl, by omega, by omega⟩
 case round =>
  obtain ⟨j, hj, rfl, hp, hq⟩ := hrel
  rcases (by omega : j = 0 ∨ j = 1 ∨ j = 2) with rfl | rfl | rfl
  · by_cases h : p = 0
    · go_wp2
      go_round
      case rel => exact ⟨1, by omega, by go_num, by omega, by omega⟩
      case measure => simp [intOf]
    · go_wp2
      go_ret
      exact ⟨rfl, rfl⟩
  · have hp0 := hp (by omega)
    by_cases h : q = 0
    · go_wp2
      go_round
      case rel => exact ⟨2, by omega, by go_num, by omega, by omega⟩
      case measure => simp [intOf]
    · go_wp2
      go_ret
      exact ⟨rfl, rfl⟩
  · have hp0 := Lib.hid (hp (by omega))
    have hq0 := Lib.hid (hq (by omega))
    go_wp2
    go_ret
    exact ⟨by first | rfl | (rw [if_pos hp0.out, hq0.out]), rfl⟩
theorem cmp_lt (a b : Thing) : decide ((if cmpI a.1 b.1 = 0 then cmpI a.2.1 b.2.1 else cmpI a.1 b.1) < 0) = decide (lt a b) := by
 apply decide_eq_decide.2
 unfold cmpI lt
 repeat' split
 all_goals omega
theorem under_thingsW : Tryz.prog.underlying 126 = some (.slice 167) := by kernel_rfl
theorem info_thW : (Tryz.prog.info? 167).map (fun i => (i.zero, i.size, i.bytes)) = some (some (.agg (thW (0, 0, default)).toArray), 652, 704) := by kernel_rfl
set_option maxRecDepth 10000 in
theorem el_thW : El Tryz.prog 167 652 704 thW := ⟨⟨_, info_thW, rfl⟩, thW_length, thW_one⟩
theorem size_thW : (Tryz.prog.info? 167).map (·.size) = some 652 := by kernel_rfl
theorem sz_thW (x : Thing) : (Tryz.prog.info? 167).map (·.size) = some (thW x).length := by rw [thW_length]; exact size_thW
set_option maxRecDepth 10000 in
set_option maxHeartbeats 1000000 in
theorem lessW_c {w0 w : World} {L : List SP} (H : At w0 L w) (a b : Thing) :
    Calls Tryz.prog 103 #[.agg (thW a).toArray, .agg (thW b).toArray] w fun e w' => e = .returned (.bool (decide (lt a b))) ∧ At w0 L w' := by
 have tok1 : True := trivial
 have hcl := Lib.hid (cmp_lt a b)
 go_enter Tryz.func103, Tryz.ntmps103
 go_wp2_with (first | (have _t := tok1; (with_reducible refine wpList_op rfl ?_); intro _ hK; refine wp_box_sl (v := .agg (thW a).toArray) 167 _ rfl rfl H (fun A w' (H : At w0 (raw A (thW a).toArray 167 :: L) w') _ => hK _ _ ?_); clear tok1 _t) | ((with_reducible refine wpList_op rfl ?_); intro _ hK; refine wp_box_sl (v := .agg (thW b).toArray) 167 _ rfl rfl H (fun B w' (H : At w0 (raw B (thW b).toArray 167 :: _ :: L) w') _ => hK _ _ ?_)))
 refine wpL_begin 13 (At w0 (raw B (thW b).toArray 167 :: raw A (thW a).toArray 167 :: L)) [(0, true), (1, true), (2, true), (3, true), (5, true), (6, true), (7, true), (8, true), (4, false), (9, false), (10, false), (11, false), (12, true), (13, false)] rfl (by kernel_rfl) (by kernel_rfl) ((H.drew)) ?_
 intro ops hOps hS
 replace H := H.drew
 refine fl hOps hS ?_
 refine tl hOps hS (fun w hw => raw_at (hw.heap 1 rfl) rfl) ?_
 refine fl hOps hS ?_
 refine tl hOps hS (fun w hw => raw_at (hw.heap 0 rfl) rfl) ?_
 refine fl hOps hS ?_
 refine tl hOps hS (fun w hw => raw_at (hw.heap 1 rfl) rfl) ?_
 refine fl hOps hS ?_
 refine tl hOps hS (fun w hw => raw_at (hw.heap 0 rfl) rfl) ?_
 refine wpL_next hOps rfl rfl ?_
 intro K hK
 refine wp_call _ _ _ rfl Tryz.func125 rfl (by kernel_rfl) ?_
 simp only [List.map_toArray, List.map_cons, List.map_nil, Act.eval, Array.getD_eq_getD_getElem?, List.getElem?_toArray, List.getElem?_cons_zero, List.getElem?_cons_succ, Option.getD_some]
 refine (compare_c _ _ _).mono ?_; rintro e w' ⟨rfl, rfl⟩
 have hS := (H)
 refine hK _ _ hS ?_
 clear hK K
 simp only [nrm]
 refine wpL_next hOps rfl rfl ?_
 intro K hK
 refine wp_call _ _ _ rfl Tryz.func125 rfl (by kernel_rfl) ?_
 simp only [List.map_toArray, List.map_cons, List.map_nil, Act.eval, Array.getD_eq_getD_getElem?, List.getElem?_toArray, List.getElem?_cons_zero, List.getElem?_cons_succ, Option.getD_some]
 refine (compare_c _ _ _).mono ?_; rintro e w' ⟨rfl, rfl⟩
 have hS := (H)
 refine hK _ _ hS ?_
 clear hK K
 simp only [nrm]
 refine wpL_next hOps rfl rfl ?_
 intro K hK
 refine wp_buildSlice2_sl _ _ _ rfl under_ints info_int rfl rfl rfl rfl H (fun C w' H _ => ?_)
 have hS := (H.tail)
 refine hK _ _ hS ?_
 clear hK K
 simp only [nrm]
 refine wpL_next hOps rfl rfl ?_
 intro K hK
 refine wp_call _ _ _ rfl Tryz.func124 rfl (by kernel_rfl) ?_
 simp only [List.map_toArray, List.map_cons, List.map_nil, Act.eval, Array.getD_eq_getD_getElem?, List.getElem?_toArray, List.getElem?_cons_zero, List.getElem?_cons_succ, Option.getD_some]
 refine (or_c H).mono ?_; rintro e w' ⟨rfl, rfl⟩
 have hS := (H.tail)
 refine hK _ _ hS ?_
 clear hK K
 simp only [nrm]
 refine fl hOps hS ?_
 refine wpL_last hOps rfl rfl ?_
 intro K hK
 refine wp_run (v := .bool (decide (lt a b))) (by rw [← hcl.out]; rfl) ?_
 refine hK _ _ ?_
 clear hK K hOps hS ops
 simp only [nrm]
 go_wp2
 all_goals
  go_ret
  exact ⟨rfl, H.tail.tail.tail⟩
def hdW (p : Nat) (most nx : Int) (a : Option Addr) (n cap : Nat) : SP := raw p #[.int .i64 most, .slice a n cap, .int .u64 nx] 128
set_option maxRecDepth 10000 in
set_option maxHeartbeats 1000000 in
theorem swapW_c {w0 w : World} {L : List SP} {p : Nat} {most nx : Int} {a : Option Addr} {cap : Nat} {l : List Thing}
    (H : At w0 (hdW p most nx a l.length cap :: lrow 167 652 thW (.slice a l.length cap) l :: L) w) (i j : Nat) (hi : (i : Int) < l.length) (hj : (j : Int) < l.length) :
    Calls Tryz.prog 70 #[.pointer (some ⟨p, 0, none⟩), .int .i64 i, .int .i64 j] w fun e w' => ∃ v, e = .returned v ∧ At w0 (hdW p most nx a (sw l i j).length cap :: lrow 167 652 thW (.slice a (sw l i j).length cap) (sw l i j) :: L) w' := by
 unfold hdW at H ⊢
 obtain ⟨gb, ob, rfl⟩ := lrow_place H 1 rfl (by omega)
 have hgi : l[i]? = some (g l i) := g_get (by omega)
 have hgj : l[j]? = some (g l j) := g_get (by omega)
 have Hi := Lib.hid hgi
 have Hj := Lib.hid hgj
 clear hgi hgj
 go_enter Tryz.func70, Tryz.ntmps70
 refine wpM_begin [25, 27] ((At w0 (raw p #[.int .i64 most, .slice (some ⟨gb, ob, none⟩) l.length cap, .int .u64 nx] 128 :: lrow 167 652 thW (.slice (some ⟨gb, ob, none⟩) l.length cap) l :: L))) [(0, 2), (1, 2), (2, 2), (3, 1), (4, 2), (5, 2), (6, 2), (7, 2), (8, 1), (9, 2), (10, 2), (11, 2), (12, 2), (13, 1), (14, 2), (15, 2), (16, 1), (17, 2), (18, 2), (19, 2), (20, 1), (21, 2), (22, 2), (23, 1), (24, 2), (25, 0), (26, 2), (27, 0)] rfl (by kernel_rfl) (by kernel_rfl) ((H.drew)) ?_
 intro ops hOps hS
 replace H := H.drew
 iterate 3 refine fm hOps ?_
 refine tm hOps hS (fun w hw => raw_at (At.heap hw 0 rfl) rfl) ?_
 iterate 4 refine fm hOps ?_
 refine tm hOps hS (fun w hw => raw_at (At.heap hw 0 rfl) rfl) ?_
 iterate 4 refine fm hOps ?_
 refine tm hOps hS (fun w hw => raw_at (At.heap hw 0 rfl) rfl) ?_
 iterate 2 refine fm hOps ?_
 refine wpM_take hOps hS rfl (fun _ _ _ h => h) (yl_mid rfl _ _ rfl rfl (thW (g l j)) (by kernel_rfl) (sz_thW _) (fun w hw => lrow_at el_thW hw 1 rfl Hj.out)) ?_
 simp only [nrm]
 iterate 3 refine fm hOps ?_
 refine tm hOps hS (fun w hw => raw_at (At.heap hw 0 rfl) rfl) ?_
 iterate 2 refine fm hOps ?_
 refine wpM_take hOps hS rfl (fun _ _ _ h => h) (yl_mid rfl _ _ rfl rfl (thW (g l i)) (by kernel_rfl) (sz_thW _) (fun w hw => lrow_at el_thW hw 1 rfl Hi.out)) ?_
 simp only [nrm]
 refine fm hOps ?_
 refine wpM_next hOps rfl rfl ?_
 intro K hK
 refine wp_lstore el_thW (z := g l j) _ _ rfl rfl rfl rfl (H.pull 1 rfl) (by omega) (fun w' H => ?_)
 refine hK _ _ (.inl (by decide)) ?_
 clear hK K
 simp only [nrm]
 refine fm hOps ?_
 refine wpM_next hOps rfl rfl ?_
 intro K hK
 have HL : (l.set i (g l j)).length = l.length := List.length_set
 refine wp_lstore el_thW (z := g l i) _ _ rfl rfl rfl rfl H (by omega) (fun w' H => ?_)
 refine hK _ _ (.inl (by decide)) ?_
 clear hK K
 simp only [nrm]
 refine wpM_end ?_
 clear hOps hS ops
 go_wp2
 go_end0
 refine ⟨_, rfl, ?_⟩
 have H2 : At w0 (raw p #[.int .i64 most, .slice (some ⟨gb, ob, none⟩) l.length cap, .int .u64 nx] 128 :: lrow 167 652 thW (.slice (some ⟨gb, ob, none⟩) (sw l i j).length cap) (sw l i j) :: L) _ := H.pull 1 rfl
 rw [sw_length] at H2 ⊢
 exact H2
def UpRW (w0 : World) (L : List SP) (p : Nat) (most nx : Int) (a : Option Addr) (cap : Nat) (l0 : List Thing) (j : Nat) (l : List Thing) (w : World) : Prop :=
 j < l.length ∧ l.length = l0.length ∧ l.Perm l0 ∧ UpOK l j ∧ At w0 (hdW p most nx a l.length cap :: lrow 167 652 thW (.slice a l.length cap) l :: L) w
set_option maxRecDepth 10000 in
set_option maxHeartbeats 2000000 in
theorem upW_c {w0 w : World} {L : List SP} {p : Nat} {most nx : Int} {a : Option Addr} {cap : Nat} {l0 : List Thing}
    (H : At w0 (hdW p most nx a l0.length cap :: lrow 167 652 thW (.slice a l0.length cap) l0 :: L) w) (i : Nat) (hi : i < l0.length) (hl : l0.length ≤ 1000000) (hU : UpOK l0 i) :
    Calls Tryz.prog 99 #[.pointer (some ⟨p, 0, none⟩), .int .i64 i] w fun e w' => ∃ v l, e = .returned v ∧ l.Perm l0 ∧ HeapOK l ∧ At w0 (hdW p most nx a l.length cap :: lrow 167 652 thW (.slice a l.length cap) l :: L) w' := by
 obtain ⟨gb, ob, rfl⟩ := lrow_place H 1 rfl (by omega)
 go_enter Tryz.func99, Tryz.ntmps99
 go_wp2_with fail
 go_loopw [1] (fun i wr => ∃ (j : Nat) (l : List Thing), i = .int .i64 j ∧ UpRW w0 L p most nx (some ⟨gb, ob, none⟩) cap l0 j l wr) (fun i _ => (intOf i).toNat)
 case atStart => exact ⟨i, l0, rfl, hi, rfl, List.Perm.refl _, hU, H⟩
 case round =>
  clear H hU hi
  obtain ⟨j, l, rfl, hj, hll, hp, hU, H⟩ := hrel
  unfold hdW at H
  have HU := Lib.hid hU
  have HP := Lib.hid hp
  have HLL := Lib.hid hll
  clear hU hp hll
  go_wp2_with fail
  by_cases h0 : j = 0
  · subst h0
    refine wpL_begin 21 (At w0 (raw p #[.int .i64 most, .slice (some ⟨gb, ob, none⟩) l.length cap, .int .u64 nx] 128 :: lrow 167 652 thW (.slice (some ⟨gb, ob, none⟩) l.length cap) l :: L)) [(0, true), (1, true), (2, true), (3, true), (4, true), (5, true), (6, true), (7, true), (8, true), (9, true), (10, true), (11, true), (12, true), (13, true), (14, true), (15, true), (16, true), (17, true), (18, true), (19, false), (20, true)] rfl (by kernel_rfl) (by kernel_rfl) ((H.drew)) ?_
    intro ops hOps hS
    replace H := H.drew
    iterate 3 refine fl hOps hS ?_
    refine wpL_take hOps hS rfl (fun _ _ _ h => h) (yn rfl) ?_
    simp only [nrm]
    refine wpL_take hOps hS rfl (fun _ _ _ h => h) (yn rfl) ?_
    simp only [nrm]
    refine wpL_take hOps hS rfl (fun _ _ _ h => h) (yn rfl) ?_
    simp only [nrm]
    refine wpL_take hOps hS rfl (fun _ _ _ h => h) (yn rfl) ?_
    simp only [nrm]
    refine wpL_take hOps hS rfl (fun _ _ _ h => h) (yn rfl) ?_
    simp only [nrm]
    refine wpL_take hOps hS rfl (fun _ _ _ h => h) (yn rfl) ?_
    simp only [nrm]
    refine wpL_take hOps hS rfl (fun _ _ _ h => h) (yn rfl) ?_
    simp only [nrm]
    refine wpL_take hOps hS rfl (fun _ _ _ h => h) (yn rfl) ?_
    simp only [nrm]
    refine wpL_take hOps hS rfl (fun _ _ _ h => h) (yn rfl) ?_
    simp only [nrm]
    refine wpL_take hOps hS rfl (fun _ _ _ h => h) (yn rfl) ?_
    simp only [nrm]
    refine wpL_take hOps hS rfl (fun _ _ _ h => h) (yn rfl) ?_
    simp only [nrm]
    refine wpL_take hOps hS rfl (fun _ _ _ h => h) (yn rfl) ?_
    simp only [nrm]
    refine wpL_take hOps hS rfl (fun _ _ _ h => h) (yn rfl) ?_
    simp only [nrm]
    refine wpL_take hOps hS rfl (fun _ _ _ h => h) (yn rfl) ?_
    simp only [nrm]
    refine wpL_take hOps hS rfl (fun _ _ _ h => h) (yn rfl) ?_
    simp only [nrm]
    refine wpL_take hOps hS rfl (fun _ _ _ h => h) (yn rfl) ?_
    simp only [nrm]
    refine wpL_skip hOps hS rfl rfl ?_
    simp only [nrm]
    refine fl hOps hS ?_
    refine wpL_end ?_
    clear hOps hS ops
    go_wp2
    go_end0
    exact ⟨_, l, rfl, HP.out, HU.out.stop (fun h => absurd h (by omega)), H⟩
  · obtain ⟨q, hq⟩ : ∃ q, q = (j - 1) / 2 := ⟨_, rfl⟩
    have hq2 : ((j : Int) - 1) / 2 = (q : Int) := by omega
    have hjl : (j : Int) < l.length := by omega
    have hql : (q : Int) < l.length := by omega
    have hqn : q < l.length := by omega
    have hj6 : (j : Int) ≤ 1000000 := by have := HLL.out; omega
    have hj1 : (1 : Int) ≤ (j : Int) := by omega
    have Hj := Lib.hid (g_get hj)
    have Hq := Lib.hid (g_get (show q < l.length by omega))
    have HQ := Lib.hid hq
    clear hq
    refine wpL_begin 21 (At w0 (raw p #[.int .i64 most, .slice (some ⟨gb, ob, none⟩) l.length cap, .int .u64 nx] 128 :: lrow 167 652 thW (.slice (some ⟨gb, ob, none⟩) l.length cap) l :: L)) [(0, true), (1, true), (2, true), (3, true), (4, true), (5, true), (6, true), (7, true), (8, true), (9, true), (10, true), (11, true), (12, true), (13, true), (14, true), (15, true), (16, true), (17, true), (18, true), (19, false), (20, true)] rfl (by kernel_rfl) (by kernel_rfl) ((H.drew)) ?_
    intro ops hOps hS
    replace H := H.drew
    iterate 2 refine fl hOps hS ?_
    rw [show decide (0 < j) = true from decide_eq_true (by omega)]
    iterate 4 refine fl hOps hS ?_
    refine tl hOps hS (fun w hw => raw_at (At.heap hw 0 rfl) rfl) ?_
    iterate 2 refine fl hOps hS ?_
    refine wpL_take hOps hS rfl (fun _ _ _ h => h) (yl_mid rfl _ _ rfl rfl (thW (g l j)) (by kernel_rfl) (sz_thW _) (fun w hw => lrow_at el_thW hw 1 rfl Hj.out)) ?_
    simp only [nrm]
    iterate 3 refine fl hOps hS ?_
    refine tl hOps hS (fun w hw => raw_at (At.heap hw 0 rfl) rfl) ?_
    iterate 2 refine fl hOps hS ?_
    rw [show IntKind.i64.wrap ((j : Int) - 1) = (j : Int) - 1 from by rw [IntKind.wrap_i64]; omega]
    refine fl hOps hS ?_
    rw [show IntKind.i64.wrap (((j : Int) - 1).tdiv 2) = (q : Int) from by rw [Int.tdiv_eq_ediv_of_nonneg (by omega), hq2, IntKind.wrap_i64]; omega]
    refine fl hOps hS ?_
    refine wpL_take hOps hS rfl (fun _ _ _ h => h) (yl_mid rfl _ _ rfl rfl (thW (g l q)) (by kernel_rfl) (sz_thW _) (fun w hw => lrow_at el_thW hw 1 rfl Hq.out)) ?_
    simp only [nrm]
    refine wpL_next hOps rfl rfl ?_
    intro K hK
    refine wp_call _ _ _ rfl Tryz.func103 rfl (by kernel_rfl) ?_
    simp only [List.map_toArray, List.map_cons, List.map_nil, Act.eval, Array.getD_eq_getD_getElem?, List.getElem?_toArray, List.getElem?_cons_zero, List.getElem?_cons_succ, Option.getD_some]
    refine (lessW_c H _ _).mono ?_; rintro e w' ⟨rfl, H⟩
    have hS := (H)
    refine hK _ _ hS ?_
    clear hK K
    simp only [nrm]
    by_cases hlt : lt (g l j) (g l q)
    · rw [decide_eq_true hlt]
      refine fl hOps hS ?_
      refine wpL_end ?_
      clear hOps hS ops
      go_wp2_with fail
      refine (swapW_c H j q hjl hql).mono ?_; rintro e w' ⟨v, rfl, H⟩
      go_wp2
      go_roundw
      case rel => exact ⟨q, sw l j q, by rw [hq2], by rw [sw_length]; omega, by rw [sw_length]; exact HLL.out, (sw_perm (by omega) (by omega)).trans HP.out, HQ.out ▸ HU.out.step (by omega) hj (HQ.out ▸ hlt), H⟩
      case measure => simp [intOf]; omega
    · rw [decide_eq_false hlt]
      refine fl hOps hS ?_
      refine wpL_end ?_
      clear hOps hS ops
      go_wp2
      go_end0
      exact ⟨_, l, rfl, HP.out, HU.out.stop (fun _ _ => HQ.out ▸ hlt), H⟩
end Go.Proofs.YtmflbekabkainaaGreatDoor
