/-
  The mailbox's functions: what each call does, told of lists.
-/
import Derived.Test.YtogicnbocefkbaaRows
import Derived.Test.YtogicnbocefkbaaSL
import Derived.Test.YtogicnbocefkbaaReg
import Derived.Test.YtogicnbocefkbaaOps
namespace Go.Proofs.Ytogicnbocefkbaa
open Go.RowKit Go.Hg
set_option linter.unusedSimpArgs false
set_option linter.unusedVariables false

abbrev Body := List UInt8
/-- The cells of a row of bodies. -/
def bls (xs : List Body) : List Value := xs.flatMap bl
def zb : Body := List.replicate 256 0
theorem one_bls (xs : List Body) : ∀ u ∈ bls xs, u.oneCell' = true := by
  intro u hu
  simp [bls] at hu
  obtain ⟨b, _, h⟩ := hu
  exact one_bl b u h
/-- All bodies are as large as they are. -/
def Full (xs : List Body) : Prop := ∀ x ∈ xs, x.length = 256
theorem bls_length {xs : List Body} (h : Full xs) : (bls xs).length = xs.length * 256 := by
  induction xs with
  | nil => rfl
  | cons x xs ih =>
    have h1 := h x (by simp)
    have h2 := ih fun y hy => h y (by simp [hy])
    simp only [bls, List.flatMap_cons, List.length_append, List.length_cons, bl_length] at *
    omega

theorem bls_take {xs : List Body} (h : Full xs) (q : Nat) : (bls xs).take (q * 256) = bls (xs.take q) := by
  induction xs generalizing q with
  | nil => simp [bls]
  | cons x xs ih =>
    have h1 := h x (by simp)
    have h2 := ih (fun y hy => h y (by simp [hy]))
    cases q with
    | zero => simp [bls]
    | succ q =>
      have e : (q + 1) * 256 = (bl x).length + q * 256 := by rw [bl_length, h1]; omega
      simp only [bls, List.flatMap_cons, List.take_succ_cons] at *
      rw [e, List.take_length_add_append, h2]
theorem bls_drop {xs : List Body} (h : Full xs) (q : Nat) : (bls xs).drop (q * 256) = bls (xs.drop q) := by
  induction xs generalizing q with
  | nil => simp [bls]
  | cons x xs ih =>
    have h1 := h x (by simp)
    have h2 := ih (fun y hy => h y (by simp [hy]))
    cases q with
    | zero => simp [bls]
    | succ q =>
      have e : (q + 1) * 256 = (bl x).length + q * 256 := by rw [bl_length, h1]; omega
      simp only [bls, List.flatMap_cons, List.drop_succ_cons] at *
      rw [e, List.drop_length_add_append, h2]
theorem Full.drop {xs : List Body} (h : Full xs) (q : Nat) : Full (xs.drop q) := fun x hx => h x (List.mem_of_mem_drop hx)
theorem Full.take {xs : List Body} (h : Full xs) (q : Nat) : Full (xs.take q) := fun x hx => h x (List.mem_of_mem_take hx)

theorem under_bodies : Try.prog.underlying 40 = some (.slice 34) := by kernel_rfl
theorem under_boxes : Try.prog.underlying 56 = some (.slice 40) := by kernel_rfl
theorem under_body : Try.prog.underlying 34 = some (.array 256 5) := by kernel_rfl
theorem info_body : (Try.prog.info? 34).map (fun i => (i.zero, i.size, i.bytes)) = some (some (.agg (bv zb)), 256, 256) := by kernel_rfl
theorem zero_body (w : World) : (zeroValue 34).run Try.prog w = .ok (.agg (bv zb)) w := by kernel_rfl
theorem info_bodies : (Try.prog.info? 40).map (fun i => (i.zero, i.size, i.bytes)) = some (some (.slice none 0 0), 1, 24) := by kernel_rfl

/-! ### box -/
set_option maxRecDepth 10000 in
set_option maxHeartbeats 400000 in
theorem box_none (bp bs n : Nat) (k : Int) (w : World) (hn : (n : Int) ≤ k) (h0 : 0 ≤ k) (hk : k < 65536) (hb : w.cell? ⟨bp, 0, none⟩ = some (.slice (some ⟨bs, 0, none⟩) n n)) :
    Calls Try.prog 19 #[.pointer (some ⟨bp, 0, none⟩), .int .u16 k] w fun e w' => e = .returned (.pointer none) ∧ w = w' := by
  go_enter Try.func19, Try.ntmps19
  go_wp2
  go_ret
  exact ⟨rfl, rfl⟩
set_option maxRecDepth 10000 in
set_option maxHeartbeats 400000 in
theorem box_some (bp bs n : Nat) (k : Int) (w : World) (hn : k < (n : Int)) (h0 : 0 ≤ k) (hk : k < 65536) (hb : w.cell? ⟨bp, 0, none⟩ = some (.slice (some ⟨bs, 0, none⟩) n n)) :
    Calls Try.prog 19 #[.pointer (some ⟨bp, 0, none⟩), .int .u16 k] w fun e w' => e = .returned (.pointer (some ⟨bs, k.toNat, none⟩)) ∧ w = w' := by
  go_enter Try.func19, Try.ntmps19
  go_wp2
  go_ret
  exact ⟨rfl, rfl⟩

/-! ### Len -/
set_option maxRecDepth 10000 in
set_option maxHeartbeats 400000 in
theorem len_none (bp bs n : Nat) (k : Int) (w : World) (hn : (n : Int) ≤ k) (h0 : 0 ≤ k) (hk : k < 65536) (hb : w.cell? ⟨bp, 0, none⟩ = some (.slice (some ⟨bs, 0, none⟩) n n)) :
    Calls Try.prog 17 #[.pointer (some ⟨bp, 0, none⟩), .int .u16 k] w fun e w' => e = .returned (.int .i64 0) ∧ w = w' := by
  go_enter Try.func17, Try.ntmps17
  go_wp2_with (go_at_call 19; refine (box_none _ _ _ _ _ hn h0 hk hb).mono ?_; rintro e w' ⟨rfl, rfl⟩)
  go_ret
  exact ⟨rfl, rfl⟩
set_option maxRecDepth 10000 in
set_option maxHeartbeats 400000 in
theorem len_some (bp bs n : Nat) (k : Int) (w : World) (hn : k < (n : Int)) (h0 : 0 ≤ k) (hk : k < 65536) (hb : w.cell? ⟨bp, 0, none⟩ = some (.slice (some ⟨bs, 0, none⟩) n n))
    (a : Option Addr) (m c : Nat) (hv : w.cell? ⟨bs, k.toNat, none⟩ = some (.slice a m c)) :
    Calls Try.prog 17 #[.pointer (some ⟨bp, 0, none⟩), .int .u16 k] w fun e w' => e = .returned (.int .i64 m) ∧ w = w' := by
  go_enter Try.func17, Try.ntmps17
  go_wp2_with (go_at_call 19; refine (box_some _ _ _ _ _ hn h0 hk hb).mono ?_; rintro e w' ⟨rfl, rfl⟩)
  go_ret
  exact ⟨rfl, rfl⟩

/-! ### Put -/
set_option maxRecDepth 10000 in
set_option maxHeartbeats 400000 in
theorem put_none (bp bs n : Nat) (k : Int) (w0 w : World) (LL : List SP) (b : Body) (hn : (n : Int) ≤ k) (h0 : 0 ≤ k) (hk : k < 65536) (hb : w.heap[bp]? = some (.cells #[.slice (some ⟨bs, 0, none⟩) n n] 58 (0, 0))) (H : At w0 LL w) :
    Calls Try.prog 13 #[.pointer (some ⟨bp, 0, none⟩), .int .u16 k, .agg (bv b)] w fun e w' => e = .returned (.int .i64 10) ∧ At w0 LL w' := by
  go_enter Try.func13, Try.ntmps13
  go_wp2_with ((with_reducible refine wpList_op rfl ?_); intro _ hK; refine wp_box_sl (v := .agg (bv b)) _ _ rfl rfl H (fun B w' (H : At w0 (raw B (bv b) 34 :: _) w') G => hK _ _ ?_))
  have hb2 := (G.block bp (Array.getElem?_eq_some_iff.1 hb).1).trans hb
  refine (box_none _ _ _ _ _ hn h0 hk ((raw_cell hb2 0).trans rfl)).mono ?_; rintro e w' ⟨rfl, rfl⟩
  go_wp2
  go_ret
  exact ⟨rfl, H.tail⟩
set_option maxRecDepth 10000 in
set_option maxHeartbeats 400000 in
theorem put_full (w0 : World) (LL : List SP) (bp bs n : Nat) (vs : Array Value) (k : Int) (w : World) (hn : k < (n : Int)) (h0 : 0 ≤ k) (hk : k < 65536) (b : Body)
    (v : Value) (xs : List Body) (hm : (64 : Int) ≤ xs.length) (hv : vs[k.toNat]? = some v)
    (H : At w0 (rows 34 256 v xs.length (bls xs) :: raw bp #[.slice (some ⟨bs, 0, none⟩) n n] 58 :: raw bs vs 40 :: LL) w) :
    Calls Try.prog 13 #[.pointer (some ⟨bp, 0, none⟩), .int .u16 k, .agg (bv b)] w fun e w' => e = .returned (.int .i64 8) ∧
      At w0 (rows 34 256 v xs.length (bls xs) :: raw bp #[.slice (some ⟨bs, 0, none⟩) n n] 58 :: raw bs vs 40 :: LL) w' := by
  obtain ⟨a, c, rfl⟩ := H.rows_slice
  go_enter Try.func13, Try.ntmps13
  go_wp2_with ((with_reducible refine wpList_op rfl ?_); intro _ hK; refine wp_box_sl (v := .agg (bv b)) _ _ rfl rfl H (fun B w' (H : At w0 (raw B (bv b) 34 :: _) w') _ => hK _ _ ?_))
  refine (box_some _ _ _ _ _ hn h0 hk ((raw_cell (H.heap 2 rfl) 0).trans rfl)).mono ?_; rintro e w' ⟨rfl, rfl⟩
  have hc := (raw_cell (H.heap 3 rfl) k.toNat).trans hv
  go_wp2
  go_ret
  exact ⟨rfl, H.tail⟩
set_option maxRecDepth 10000 in
set_option maxHeartbeats 400000 in
theorem put_ok (w0 : World) (LL : List SP) (bp bs n : Nat) (vs : Array Value) (k : Int) (w : World) (hn : k < (n : Int)) (h0 : 0 ≤ k) (hk : k < 65536) (b : Body) (hb : b.length = 256)
    (v : Value) (xs : List Body) (hm : (xs.length : Int) < 64) (hv : vs[k.toNat]? = some v)
    (H : At w0 (rows 34 256 v xs.length (bls xs) :: raw bp #[.slice (some ⟨bs, 0, none⟩) n n] 58 :: raw bs vs 40 :: LL) w) :
    Calls Try.prog 13 #[.pointer (some ⟨bp, 0, none⟩), .int .u16 k, .agg (bv b)] w fun e w' => ∃ v', e = .returned (.int .i64 0) ∧
      At w0 (rows 34 256 v' (xs.length + 1) (bls (xs ++ [b])) :: raw bp #[.slice (some ⟨bs, 0, none⟩) n n] 58 :: raw bs (vs.setIfInBounds k.toNat v') 40 :: LL) w' := by
  obtain ⟨a, c, rfl⟩ := H.rows_slice
  obtain ⟨i, hi, hz, hsz, hby⟩ := info_of info_body
  have hlt : k.toNat < vs.size := (Array.getElem?_eq_some_iff.1 hv).1
  go_enter Try.func13, Try.ntmps13
  go_wp2_with ((with_reducible refine wpList_op rfl ?_); intro _ hK; refine wp_box_sl (v := .agg (bv b)) _ _ rfl rfl H (fun B w' (H : At w0 (raw B (bv b) 34 :: _) w') _ => hK _ _ ?_))
  refine (box_some _ _ _ _ _ hn h0 hk ((raw_cell (H.heap 2 rfl) 0).trans rfl)).mono ?_; rintro e w' ⟨rfl, rfl⟩
  have hc := (raw_cell (H.heap 3 rfl) k.toNat).trans hv
  go_wp2_with fail
  clear hc
  refine wpL_begin 8 (At w0 [raw B (bv b) 34, raw bs vs 40]) [(0, true), (1, true), (2, true), (3, true), (4, true), (5, false), (6, false), (7, true), (8, false)] rfl (by kernel_rfl) (by kernel_rfl) (H.drew.mask [true, false, false, true]) ?_
  intro ops hOps hS
  replace H := H.drew
  refine wpL_take hOps hS rfl (fun _ _ _ h => h) (yl_move rfl _ rfl) ?_
  simp only [Act.put, Act.eval, List.setIfInBounds_toArray, List.set_cons_zero, List.set_cons_succ, Array.getD_eq_getD_getElem?, List.getElem?_toArray, List.getElem?_cons_zero, List.getElem?_cons_succ, Option.getD_some]
  refine wpL_take hOps hS rfl (fun _ _ _ h => h) (yl_move rfl _ rfl) ?_
  simp only [Act.put, Act.eval, List.setIfInBounds_toArray, List.set_cons_zero, List.set_cons_succ, Array.getD_eq_getD_getElem?, List.getElem?_toArray, List.getElem?_cons_zero, List.getElem?_cons_succ, Option.getD_some]
  refine wpL_take hOps hS rfl (fun _ _ _ h => h) (yl_nil rfl _ rfl _ rfl) ?_
  simp only [Act.put, Act.eval, List.setIfInBounds_toArray, List.set_cons_zero, List.set_cons_succ, Array.getD_eq_getD_getElem?, List.getElem?_toArray, List.getElem?_cons_zero, List.getElem?_cons_succ, Option.getD_some]
  refine wpL_take hOps hS rfl (fun _ _ _ h => h) (yl_load rfl _ _ rfl _ rfl _ under_bodies rfl _ (fun w hw => (raw_cell (hw.heap 1 rfl) _).trans hv)) ?_
  simp only [Act.put, Act.eval, List.setIfInBounds_toArray, List.set_cons_zero, List.set_cons_succ, Array.getD_eq_getD_getElem?, List.getElem?_toArray, List.getElem?_cons_zero, List.getElem?_cons_succ, Option.getD_some]
  refine wpL_take hOps hS rfl (fun _ _ _ h => h) (yl_load_row rfl _ _ rfl _ rfl _ _ _ _ under_body rfl (by rw [hi]; simp [hsz, bv_size, hb]) (fun w hw => hw.heap 0 rfl)) ?_
  simp only [Act.put, Act.eval, List.setIfInBounds_toArray, List.set_cons_zero, List.set_cons_succ, Array.getD_eq_getD_getElem?, List.getElem?_toArray, List.getElem?_cons_zero, List.getElem?_cons_succ, Option.getD_some]
  refine wpL_next hOps rfl rfl ?_
  intro K hK
  refine wp_buildSlice_sl (v := .agg (bv b)) _ _ rfl under_bodies info_body (by simp [Value.cells, bv_size, zb]) rfl (by simp [Value.cells, bv_size, hb]) (by omega) (by omega) H fun C w' H _ => ?_
  have hS := (H.mask [false, true, false, false, true])
  refine hK _ _ hS ?_
  clear hK K
  simp only [Act.put, Act.eval, List.setIfInBounds_toArray, List.set_cons_zero, List.set_cons_succ, Array.getD_eq_getD_getElem?, List.getElem?_toArray, List.getElem?_cons_zero, List.getElem?_cons_succ, Option.getD_some]
  refine wpL_next hOps rfl rfl ?_
  intro K hK
  have H' := H.pull 2 (P := rows 34 256 (.slice a xs.length c) xs.length (bls xs)) rfl
  refine owp ?_
  refine wp_append_sl (size := 256) (v := .slice a xs.length c) (n := xs.length) (xs := bls xs) (x := .slice (some ⟨C, 0, none⟩) 1 1) (m := 1) (news := bl b) _ _ _ _ rfl i (.agg (bv zb)) 256 under_bodies (.inl ⟨_, under_bodies⟩) hi hz hsz hby (by simp [Value.cells, bv_size, zb]) rfl H' rfl
    (Src.some (by rw [bl_length, hb]) (fun j u h => ?_) (one_bl b)) (by simp only [maxLen]; omega) (by omega) ?_
  · rw [Addr.add_lit, raw_cell (H.heap 0 rfl), Nat.zero_add]
    simpa [Value.cells, bv] using h
  · clear H' H
    intro v' w' H _
    have hS := (H.mask [false, false, true, false, true])
    refine hK _ _ hS ?_
    clear hK K
    simp only [Act.put, Act.eval, List.setIfInBounds_toArray, List.set_cons_zero, List.set_cons_succ, Array.getD_eq_getD_getElem?, List.getElem?_toArray, List.getElem?_cons_zero, List.getElem?_cons_succ, Option.getD_some]
    refine wpL_take hOps hS rfl (fun _ _ _ h => h) (yl_nil rfl _ rfl _ rfl) ?_
    simp only [Act.put, Act.eval, List.setIfInBounds_toArray, List.set_cons_zero, List.set_cons_succ, Array.getD_eq_getD_getElem?, List.getElem?_toArray, List.getElem?_cons_zero, List.getElem?_cons_succ, Option.getD_some]
    refine wpL_last hOps rfl rfl ?_
    intro K hK
    refine wp_store_sl _ _ _ rfl (v := v') rfl rfl (by kernel_rfl) H.rows_one 4 H rfl hlt fun w' H => ?_
    refine hK _ _ ?_
    clear hK K hOps hS ops
    simp only [Act.put, Act.eval, List.setIfInBounds_toArray, List.set_cons_zero, List.set_cons_succ, Array.getD_eq_getD_getElem?, List.getElem?_toArray, List.getElem?_cons_zero, List.getElem?_cons_succ, Option.getD_some]
    go_wp2
    go_ret
    refine ⟨v', rfl, ?_⟩
    have e : bls xs ++ bl b = bls (xs ++ [b]) := by simp [bls]
    rw [← e]
    exact H.maskR [true, false, false, true, true]

/-! ### Fetch -/
set_option maxRecDepth 10000 in
set_option maxHeartbeats 400000 in
theorem cloneBodies_nil (w : World) : Calls Try.prog 21 #[.slice none 0 0] w fun e w' => e = .returned (.slice none 0 0) ∧ w = w' := by
  have hnil := Lib.run_eql_slice_nil (P := Try.prog)
  go_enter Try.func21, Try.ntmps21
  go_wp2
  go_ret
  exact ⟨rfl, rfl⟩
set_option maxRecDepth 10000 in
set_option maxHeartbeats 400000 in
theorem cloneBodies_some {w0 w : World} {L : List SP} (H : At w0 L w) (a : Addr) (m c : Nat) (news : List Value) (hs : Src Try.prog 256 w (.slice (some a) m c) m news) (hm : m ≤ maxLen) (hb : m * 256 ≤ 140737488355328) :
    Calls Try.prog 21 #[.slice (some a) m c] w fun e w' => ∃ v, e = .returned v ∧ At w0 (rows 34 256 v m news :: L) w' := by
  have hnil := Lib.run_eql_slice_nil (P := Try.prog)
  obtain ⟨i, hi, hz, hsz, hby⟩ := info_of info_body
  go_enter Try.func21, Try.ntmps21
  go_wp2_with (first | (refine wpList_op rfl (fun _ hK => wp_buildSlice0_sl _ rfl under_bodies info_body H (fun B w' H2 G2 => hK _ _ ?_))) | (at_builtin; refine wpList_plain rfl (fun _ hK => wp_append_sl (size := 256) (v := .slice (some ⟨B, 0, none⟩) 0 0) (n := 0) (xs := []) (x := .slice (some a) m c) (m := m) (news := news) _ _ _ _ rfl i _ 256 under_bodies (.inl ⟨_, under_bodies⟩) hi hz hsz hby (by simp [Value.cells, bv_size, zb]) rfl (H2.rows_new (n := 0) (cap := 0) (xs := []) (Nat.le_refl _) (by simp [maxLen]) (by simp) (by simp)) rfl (hs.later G2) (by omega) (by omega) fun v' w'' H3 _ => hK _ _ ?_)))
  all_goals
    go_ret
    refine ⟨_, rfl, ?_⟩
    have H4 := H3.maskR [true]
    simp only [Nat.zero_add, List.nil_append] at H4
    exact H4.weak (by simp [maskR])

set_option maxRecDepth 10000 in
set_option maxHeartbeats 400000 in
theorem fetch_ok (w0 : World) (LL : List SP) (bp bs n : Nat) (vs : Array Value) (k : Int) (w : World) (hn : k < (n : Int)) (h0 : 0 ≤ k) (hk : k < 65536) 
    (v : Value) (xs : List Body) (hm : (xs.length : Int) ≤ 64) (hv : vs[k.toNat]? = some v) (q : Nat) (hq : (q : Int) ≤ xs.length) (hf : Full xs)
    (H : At w0 (rows 34 256 v xs.length (bls xs) :: raw bp #[.slice (some ⟨bs, 0, none⟩) n n] 58 :: raw bs vs 40 :: LL) w) :
    Calls Try.prog 15 #[.pointer (some ⟨bp, 0, none⟩), .int .u16 k, .int .i64 q] w fun e w' => ∃ v' u', e = .returned (.tuple #[u', .int .i64 0]) ∧ 
       At w0 (rows 34 256 v' (xs.length - q) (bls (xs.drop q)) :: rows 34 256 u' q (bls (xs.take q)) :: raw bp #[.slice (some ⟨bs, 0, none⟩) n n] 58 :: raw bs (vs.setIfInBounds k.toNat v') 40 :: LL) w' := by
  have hc := (raw_cell (H.heap 2 rfl) k.toNat).trans hv
  have hlt : k.toNat < vs.size := (Array.getElem?_eq_some_iff.1 hv).1
  rcases H.rows_value with ⟨rfl, hl, hx⟩ | ⟨g, off, cap, rfl, hcap, hmax, hcells⟩
  · have hx0 : xs = [] := List.eq_nil_of_length_eq_zero (by omega)
    subst hx0
    obtain rfl : q = 0 := by simp at hq; omega
    go_enter Try.func15, Try.ntmps15
    go_wp2_with fail
    refine (box_some _ _ _ _ _ hn h0 hk ((raw_cell (H.heap 1 rfl) 0).trans rfl)).mono ?_; rintro e w' ⟨rfl, rfl⟩
    go_wp2_with fail
    refine (cloneBodies_nil _).mono ?_; rintro e w' ⟨rfl, rfl⟩
    go_wp2_with ((with_reducible refine wpList_op rfl ?_); intro _ hK; refine wp_store_sl _ _ _ rfl (v := .slice none 0 0) rfl rfl (by kernel_rfl) rfl 2 H rfl hlt fun w' H3 => hK _ _ ?_)
    go_ret2
    exact ⟨.slice none 0 0, .slice none 0 0, rfl, H3.rows_nil _ _⟩
  · have hb := bls_length hf
    have hd := bls_length (hf.drop q)
    have hdl : (xs.drop q).length = xs.length - q := List.length_drop
    by_cases hcq : cap = q
    · have hx0 : xs.drop q = [] := List.eq_nil_of_length_eq_zero (by omega)
      have hnil : bls (xs.drop q) = [] := by rw [hx0]; rfl
      go_enter Try.func15, Try.ntmps15
      go_wp2_with fail
      refine (box_some _ _ _ _ _ hn h0 hk ((raw_cell (H.heap 1 rfl) 0).trans rfl)).mono ?_; rintro e w' ⟨rfl, rfl⟩
      go_wp2_with fail
      all_goals
        refine (cloneBodies_some H _ _ _ (bls (xs.drop q)) (Src.some (by rw [hnil]; simp; omega) (by rw [hnil]; simp) (one_bls _)) (by simp only [maxLen]; omega) (by omega)).mono ?_; rintro e w' ⟨v', rfl, H2⟩
        go_wp2_with ((with_reducible refine wpList_op rfl ?_); intro _ hK; refine wp_store_sl _ _ _ rfl (v := v') rfl rfl (by kernel_rfl) H2.rows_one 3 H2 rfl hlt fun w' H3 => hK _ _ ?_)
        go_ret2
        refine ⟨v', _, rfl, ?_⟩
        have H4 := (H3.pull 1 rfl).rows_take (q := q) (c := q) (by omega) (Nat.le_refl _) (by omega)
        rw [bls_take hf] at H4
        exact H4.pull 1 rfl
    · have hns : ∀ j u, (bls (xs.drop q))[j]? = some u → w.cell? ((⟨g, off + q * 256, none⟩ : Addr).add j) = some u := by
        intro j u hu
        have hj := (List.getElem?_eq_some_iff.1 hu).1
        rw [Addr.add_lit, Nat.add_assoc, hcells (q * 256 + j) (by omega)]
        rw [← bls_drop hf, List.getElem?_drop] at hu
        exact hu
      go_enter Try.func15, Try.ntmps15
      go_wp2_with fail
      refine (box_some _ _ _ _ _ hn h0 hk ((raw_cell (H.heap 1 rfl) 0).trans rfl)).mono ?_; rintro e w' ⟨rfl, rfl⟩
      go_wp2_with fail
      refine (cloneBodies_some H _ _ _ (bls (xs.drop q)) (Src.some (by omega) hns (one_bls _)) (by simp only [maxLen]; omega) (by omega)).mono ?_; rintro e w' ⟨v', rfl, H2⟩
      go_wp2_with ((with_reducible refine wpList_op rfl ?_); intro _ hK; refine wp_store_sl _ _ _ rfl (v := v') rfl rfl (by kernel_rfl) H2.rows_one 3 H2 rfl hlt fun w' H3 => hK _ _ ?_)
      go_ret2
      refine ⟨v', _, rfl, ?_⟩
      have H4 := (H3.pull 1 rfl).rows_take (q := q) (c := q) (by omega) (Nat.le_refl _) (by omega)
      rw [bls_take hf] at H4
      exact H4.pull 1 rfl

set_option maxRecDepth 10000 in
set_option maxHeartbeats 400000 in
theorem fetch_big (w0 : World) (LL : List SP) (bp bs n : Nat) (vs : Array Value) (k : Int) (w : World) (hn : k < (n : Int)) (h0 : 0 ≤ k) (hk : k < 65536)
    (v : Value) (xs : List Body) (hm : (xs.length : Int) ≤ 64) (hv : vs[k.toNat]? = some v) (z : Int) (hz : (xs.length : Int) < z) (hf : Full xs)
    (H : At w0 (rows 34 256 v xs.length (bls xs) :: raw bp #[.slice (some ⟨bs, 0, none⟩) n n] 58 :: raw bs vs 40 :: LL) w) :
    Calls Try.prog 15 #[.pointer (some ⟨bp, 0, none⟩), .int .u16 k, .int .i64 z] w fun e w' => ∃ v' u', e = .returned (.tuple #[u', .int .i64 0]) ∧
       At w0 (rows 34 256 v' 0 [] :: rows 34 256 u' xs.length (bls xs) :: raw bp #[.slice (some ⟨bs, 0, none⟩) n n] 58 :: raw bs (vs.setIfInBounds k.toNat v') 40 :: LL) w' := by
  have hc := (raw_cell (H.heap 2 rfl) k.toNat).trans hv
  have hlt : k.toNat < vs.size := (Array.getElem?_eq_some_iff.1 hv).1
  rcases H.rows_value with ⟨rfl, hl, hx⟩ | ⟨g, off, cap, rfl, hcap, hmax, hcells⟩
  · have hx0 : xs = [] := List.eq_nil_of_length_eq_zero (by omega)
    subst hx0
    have hz0 : 0 < z := by simpa using hz
    go_enter Try.func15, Try.ntmps15
    go_wp2_with fail
    refine (box_some _ _ _ _ _ hn h0 hk ((raw_cell (H.heap 1 rfl) 0).trans rfl)).mono ?_; rintro e w' ⟨rfl, rfl⟩
    go_wp2_with fail
    refine (cloneBodies_nil _).mono ?_; rintro e w' ⟨rfl, rfl⟩
    go_wp2_with ((with_reducible refine wpList_op rfl ?_); intro _ hK; refine wp_store_sl _ _ _ rfl (v := .slice none 0 0) rfl rfl (by kernel_rfl) rfl 2 H rfl hlt fun w' H3 => hK _ _ ?_)
    go_ret2
    exact ⟨.slice none 0 0, .slice none 0 0, rfl, H3.rows_nil _ _⟩
  · have hb := bls_length hf
    by_cases hcq : cap = xs.length
    all_goals
      go_enter Try.func15, Try.ntmps15
      go_wp2_with fail
      refine (box_some _ _ _ _ _ hn h0 hk ((raw_cell (H.heap 1 rfl) 0).trans rfl)).mono ?_; rintro e w' ⟨rfl, rfl⟩
      go_wp2_with fail
      all_goals
        refine (cloneBodies_some H _ _ _ [] (Src.some (by simp) (by simp) (by simp)) (by simp only [maxLen]; omega) (by omega)).mono ?_; rintro e w' ⟨v', rfl, H2⟩
        go_wp2_with ((with_reducible refine wpList_op rfl ?_); intro _ hK; refine wp_store_sl _ _ _ rfl (v := v') rfl rfl (by kernel_rfl) H2.rows_one 3 H2 rfl hlt fun w' H3 => hK _ _ ?_)
        go_ret2
        refine ⟨v', _, rfl, ?_⟩
        have H4 := (H3.pull 1 rfl).rows_take (q := xs.length) (c := xs.length) (Nat.le_refl _) (Nat.le_refl _) (by omega)
        rw [List.take_of_length_le (by omega)] at H4
        exact H4.pull 1 rfl
set_option maxRecDepth 10000 in
set_option maxHeartbeats 400000 in
theorem fetch_none (bp bs n : Nat) (k : Int) (w : World) (z : Int) (hn : (n : Int) ≤ k) (h0 : 0 ≤ k) (hk : k < 65536) (hb : w.heap[bp]? = some (.cells #[.slice (some ⟨bs, 0, none⟩) n n] 58 (0, 0))) :
    Calls Try.prog 15 #[.pointer (some ⟨bp, 0, none⟩), .int .u16 k, .int .i64 z] w fun e w' => e = .returned (.tuple #[.slice none 0 0, .int .i64 10]) ∧ w = w' := by
  go_enter Try.func15, Try.ntmps15
  go_wp2_with fail
  refine (box_none _ _ _ _ _ hn h0 hk ((raw_cell hb 0).trans rfl)).mono ?_; rintro e w' ⟨rfl, rfl⟩
  go_wp2
  go_ret2
  exact ⟨rfl, rfl⟩
set_option maxRecDepth 10000 in
set_option maxHeartbeats 400000 in
theorem fetch_neg (bp bs n : Nat) (k : Int) (w : World) (z : Int) (hz : z < 0) (hn : k < (n : Int)) (h0 : 0 ≤ k) (hk : k < 65536) (hb : w.heap[bp]? = some (.cells #[.slice (some ⟨bs, 0, none⟩) n n] 58 (0, 0))) :
    Calls Try.prog 15 #[.pointer (some ⟨bp, 0, none⟩), .int .u16 k, .int .i64 z] w fun e w' => e = .returned (.tuple #[.slice none 0 0, .int .i64 1]) ∧ w = w' := by
  go_enter Try.func15, Try.ntmps15
  go_wp2_with fail
  refine (box_some _ _ _ _ _ hn h0 hk ((raw_cell hb 0).trans rfl)).mono ?_; rintro e w' ⟨rfl, rfl⟩
  go_wp2
  go_ret2
  exact ⟨rfl, rfl⟩

/-! ### The boxes as one -/
def boxes : List Value → List (List Body) → List SP := List.zipWith fun v xs => rows 34 256 v xs.length (bls xs)
/-- A mail at block bp whose boxes hold these. -/
def mail (bp : Nat) (L : List (List Body)) : SP := fun h => ∃ bs vs, vs.length = L.length ∧ seps (raw bp #[.slice (some ⟨bs, 0, none⟩) L.length L.length] 58 :: raw bs vs.toArray 40 :: boxes vs L) h
/-- What is true of all mails. -/
def MailOK (L : List (List Body)) : Prop := L.length ≤ 64 ∧ ∀ xs ∈ L, xs.length ≤ 64 ∧ Full xs

theorem mail_open {w0 w : World} {F : List SP} {bp : Nat} {L : List (List Body)} (H : At w0 (mail bp L :: F) w) : ∃ bs vs, vs.length = L.length ∧
    At w0 (raw bp #[.slice (some ⟨bs, 0, none⟩) L.length L.length] 58 :: raw bs vs.toArray 40 :: (boxes vs L ++ F)) w := by
  obtain ⟨b, h, ⟨h1, h2, ⟨bs, vs, e, s⟩, q, r⟩, t, u⟩ := H
  exact ⟨bs, vs, e, b, h, seps_join (raw bp #[.slice (some ⟨bs, 0, none⟩) L.length L.length] 58 :: raw bs vs.toArray 40 :: boxes vs L) h ⟨h1, h2, s, q, r⟩, t, u⟩
theorem mail_shut {F : List SP} {bp bs : Nat} {vs : List Value} {L : List (List Body)} (e : vs.length = L.length) (h : Hp)
    (H : seps (raw bp #[.slice (some ⟨bs, 0, none⟩) L.length L.length] 58 :: raw bs vs.toArray 40 :: (boxes vs L ++ F)) h) : seps (mail bp L :: F) h :=
  sep_mono (seps_split (raw bp #[.slice (some ⟨bs, 0, none⟩) L.length L.length] 58 :: raw bs vs.toArray 40 :: boxes vs L) h H) (fun _ s => ⟨bs, vs, e, s⟩) (fun _ s => s)

attribute [irreducible] mail

theorem boxes_at {vs : List Value} {L : List (List Body)} {k : Nat} {v : Value} {xs : List Body} (hv : vs[k]? = some v) (hx : L[k]? = some xs) : (boxes vs L)[k]? = some (rows 34 256 v xs.length (bls xs)) := by
  simp [boxes, List.getElem?_zipWith, hv, hx]
theorem boxes_set : ∀ (vs : List Value) (L : List (List Body)) (k : Nat) (v : Value) (xs : List Body), (boxes (vs.set k v) (L.set k xs)) = (boxes vs L).set k (rows 34 256 v xs.length (bls xs))
  | [], L, k, v, xs => by simp [boxes]
  | _ :: _, [], k, v, xs => by simp [boxes]
  | u :: vs, ys :: L, 0, v, xs => by simp [boxes]
  | u :: vs, ys :: L, k + 1, v, xs => by
    have := boxes_set vs L k v xs
    simp only [boxes, List.zipWith_cons_cons, List.set_cons_succ] at this ⊢
    rw [this]

/-- One box, with what is beside it; and back. -/
theorem mail_box {w0 w : World} {F : List SP} {bp : Nat} {L : List (List Body)} (H : At w0 (mail bp L :: F) w) {k : Nat} {xs : List Body} (hx : L[k]? = some xs) :
    ∃ bs vs v R, (vs : Array Value)[k]? = some v ∧ At w0 (rows 34 256 v xs.length (bls xs) :: raw bp #[.slice (some ⟨bs, 0, none⟩) L.length L.length] 58 :: raw bs vs 40 :: R) w ∧
      ∀ v' xs' h, seps (rows 34 256 v' xs'.length (bls xs') :: raw bp #[.slice (some ⟨bs, 0, none⟩) L.length L.length] 58 :: raw bs (vs.setIfInBounds k v') 40 :: R) h → seps (mail bp (L.set k xs') :: F) h := by
  obtain ⟨bs, vs, e, H⟩ := mail_open H
  obtain ⟨hk, _⟩ := List.getElem?_eq_some_iff.1 hx
  have hkv : k < vs.length := by omega
  have hv : vs[k]? = some vs[k] := List.getElem?_eq_getElem hkv
  have hb := boxes_at hv hx
  obtain ⟨hkb, _⟩ := List.getElem?_eq_some_iff.1 hb
  have H2 := H.pull (2 + k) (P := rows 34 256 vs[k] xs.length (bls xs)) (by
    rw [Nat.add_comm]
    simp only [List.getElem?_cons_succ]
    rw [List.getElem?_append_left hkb]
    exact hb)
  refine ⟨bs, vs.toArray, vs[k], (boxes vs L).eraseIdx k ++ F, by simp [hkv], ?_, ?_⟩
  · have e2 : (raw bp #[.slice (some ⟨bs, 0, none⟩) L.length L.length] 58 :: raw bs vs.toArray 40 :: (boxes vs L ++ F)).eraseIdx (2 + k) = raw bp #[.slice (some ⟨bs, 0, none⟩) L.length L.length] 58 :: raw bs vs.toArray 40 :: ((boxes vs L).eraseIdx k ++ F) := by
      rw [Nat.add_comm]
      simp only [List.eraseIdx_cons_succ]
      rw [List.eraseIdx_append_of_lt_length hkb]
    rw [e2] at H2
    exact H2
  · intro v' xs' h H3
    refine mail_shut (vs := vs.set k v') (bs := bs) (by simp [e]) h ?_
    rw [boxes_set]
    have e3 : (L.set k xs').length = L.length := by simp
    rw [e3]
    have H4 : seps (raw bp #[.slice (some ⟨bs, 0, none⟩) L.length L.length] 58 :: raw bs (vs.toArray.setIfInBounds k v') 40 :: (rows 34 256 v' xs'.length (bls xs') :: ((boxes vs L).eraseIdx k ++ F))) h :=
      seps_perm ((List.Perm.swap _ _ _).trans (.cons _ (.swap _ _ _))) h H3
    have e4 : (vs.set k v').toArray = vs.toArray.setIfInBounds k v' := by simp
    rw [e4]
    refine seps_perm (.cons _ (.cons _ ?_)) h H4
    have h5 := perm_erase ((boxes vs L).set k (rows 34 256 v' xs'.length (bls xs'))) k (rows 34 256 v' xs'.length (bls xs')) (by simp [hkb])
    rw [List.eraseIdx_set_eq] at h5
    exact h5.append_right F

/-! ### What the calls do -/
def putE (L : List (List Body)) (k : Nat) : Int := if L.length ≤ k then 10 else if 64 ≤ (L.getD k []).length then 8 else 0
def putL (L : List (List Body)) (k : Nat) (b : Body) : List (List Body) := if L.length ≤ k then L else if 64 ≤ (L.getD k []).length then L else L.set k (L.getD k [] ++ [b])
def fetchE (L : List (List Body)) (k : Nat) (n : Int) : Int := if L.length ≤ k then 10 else if n < 0 then 1 else 0
def fetchX (L : List (List Body)) (k : Nat) (n : Int) : List Body := if L.length ≤ k then [] else if n < 0 then [] else (L.getD k []).take n.toNat
def fetchL (L : List (List Body)) (k : Nat) (n : Int) : List (List Body) := if L.length ≤ k then L else if n < 0 then L else L.set k ((L.getD k []).drop n.toNat)
def lenM (L : List (List Body)) (k : Nat) : Nat := (L.getD k []).length

theorem getD_of {L : List (List Body)} {k : Nat} {xs : List Body} (h : L[k]? = some xs) : L.getD k [] = xs := by simp [List.getD, h]

theorem put_c {w0 w : World} {F : List SP} {bp : Nat} {L : List (List Body)} (H : At w0 (mail bp L :: F) w) (hM : MailOK L) (k : Int) (h0 : 0 ≤ k) (hk : k < 65536) (b : Body) (hb : b.length = 256) :
    Calls Try.prog 13 #[.pointer (some ⟨bp, 0, none⟩), .int .u16 k, .agg (bv b)] w fun e w' => e = .returned (.int .i64 (putE L k.toNat)) ∧ At w0 (mail bp (putL L k.toNat b) :: F) w' := by
  unfold putE putL
  by_cases hn : L.length ≤ k.toNat
  · rw [if_pos hn, if_pos hn]
    obtain ⟨bs, vs, e, H2⟩ := mail_open H
    exact put_none bp bs L.length k w0 w _ b (by omega) h0 hk (H2.heap 0 rfl) H
  · rw [if_neg hn, if_neg hn]
    have hx : L[k.toNat]? = some L[k.toNat] := List.getElem?_eq_getElem (by omega)
    obtain ⟨bs, vs, v, R, hv, H2, shut⟩ := mail_box H hx
    rw [getD_of hx]
    by_cases hf : 64 ≤ (L[k.toNat]'(by omega)).length
    · rw [if_pos hf, if_pos hf]
      refine (put_full w0 R bp bs L.length vs k w (by omega) h0 hk b v _ (by omega) hv H2).mono ?_
      rintro e w' ⟨rfl, H3⟩
      refine ⟨rfl, ?_⟩
      have hset : vs.setIfInBounds k.toNat v = vs := by
        apply Array.ext_getElem?
        intro j
        rw [Array.getElem?_setIfInBounds]
        split
        · rename_i hj; subst hj; split <;> simp_all
        · rfl
      have := H3.imp (L' := mail bp (L.set k.toNat L[k.toNat]) :: F) (fun h s => shut v L[k.toNat] h (by rw [hset]; exact s))
      rwa [List.set_getElem_self] at this
    · rw [if_neg hf, if_neg hf]
      refine (put_ok w0 R bp bs L.length vs k w (by omega) h0 hk b hb v _ (by omega) hv H2).mono ?_
      rintro e w' ⟨v', rfl, H3⟩
      exact ⟨rfl, H3.imp fun h s => shut v' _ h (by simpa using s)⟩

theorem fetch_c {w0 w : World} {F : List SP} {bp : Nat} {L : List (List Body)} (H : At w0 (mail bp L :: F) w) (hM : MailOK L) (k : Int) (h0 : 0 ≤ k) (hk : k < 65536) (n : Int) :
    Calls Try.prog 15 #[.pointer (some ⟨bp, 0, none⟩), .int .u16 k, .int .i64 n] w fun e w' => ∃ u, e = .returned (.tuple #[u, .int .i64 (fetchE L k.toNat n)]) ∧
      At w0 (rows 34 256 u (fetchX L k.toNat n).length (bls (fetchX L k.toNat n)) :: mail bp (fetchL L k.toNat n) :: F) w' := by
  unfold fetchE fetchX fetchL
  by_cases hn : L.length ≤ k.toNat
  · simp only [if_pos hn]
    obtain ⟨bs, vs, e, H2⟩ := mail_open H
    refine (fetch_none bp bs L.length k w n (by omega) h0 hk (H2.heap 0 rfl)).mono ?_
    rintro e w' ⟨rfl, rfl⟩
    exact ⟨_, rfl, H.rows_nil _ _⟩
  · simp only [if_neg hn]
    have hx : L[k.toNat]? = some L[k.toNat] := List.getElem?_eq_getElem (by omega)
    obtain ⟨bs, vs, v, R, hv, H2, shut⟩ := mail_box H hx
    rw [getD_of hx]
    obtain ⟨hl, hfull⟩ := hM.2 _ (List.getElem_mem (by omega : k.toNat < L.length))
    by_cases hneg : n < 0
    · simp only [if_pos hneg]
      refine (fetch_neg bp bs L.length k w n hneg (by omega) h0 hk (H2.heap 1 rfl)).mono ?_
      rintro e w' ⟨rfl, rfl⟩
      exact ⟨_, rfl, H.rows_nil _ _⟩
    · simp only [if_neg hneg]
      obtain ⟨q, rfl⟩ := Int.eq_ofNat_of_zero_le (by omega : 0 ≤ n)
      simp only [Int.toNat_natCast]
      by_cases hq : q ≤ (L[k.toNat]'(by omega)).length
      · refine (fetch_ok w0 R bp bs L.length vs k w (by omega) h0 hk v _ (by omega) hv q (by omega) hfull H2).mono ?_
        rintro e w' ⟨v', u', rfl, H3⟩
        refine ⟨u', rfl, ?_⟩
        have e1 : ((L[k.toNat]'(by omega)).take q).length = q := by rw [List.length_take]; omega
        rw [e1]
        exact (H3.pull 1 rfl).under fun h s => shut v' ((L[k.toNat]'(by omega)).drop q) h (by rw [List.length_drop]; exact s)
      · refine (fetch_big w0 R bp bs L.length vs k w (by omega) h0 hk v _ (by omega) hv q (by omega) hfull H2).mono ?_
        rintro e w' ⟨v', u', rfl, H3⟩
        refine ⟨u', rfl, ?_⟩
        have e1 : (L[k.toNat]'(by omega)).take q = L[k.toNat]'(by omega) := List.take_of_length_le (by omega)
        have e2 : (L[k.toNat]'(by omega)).drop q = [] := List.drop_of_length_le (by omega)
        rw [e1, e2]
        exact (H3.pull 1 rfl).under fun h s => shut v' [] h s

theorem len_c {w0 w : World} {F : List SP} {bp : Nat} {L : List (List Body)} (H : At w0 (mail bp L :: F) w) (k : Int) (h0 : 0 ≤ k) (hk : k < 65536) :
    Calls Try.prog 17 #[.pointer (some ⟨bp, 0, none⟩), .int .u16 k] w fun e w' => e = .returned (.int .i64 (lenM L k.toNat)) ∧ w = w' := by
  unfold lenM
  by_cases hn : L.length ≤ k.toNat
  · obtain ⟨bs, vs, e, H2⟩ := mail_open H
    have e0 : L.getD k.toNat [] = [] := by simp [List.getD, List.getElem?_eq_none hn]
    rw [e0]
    exact len_none bp bs L.length k w (by omega) h0 hk ((raw_cell (H2.heap 0 rfl) 0).trans rfl)
  · have hx : L[k.toNat]? = some L[k.toNat] := List.getElem?_eq_getElem (by omega)
    obtain ⟨bs, vs, v, R, hv, H2, shut⟩ := mail_box H hx
    rw [getD_of hx]
    obtain ⟨a, c, rfl⟩ := H2.rows_slice
    exact len_some bp bs L.length k w (by omega) h0 hk ((raw_cell (H2.heap 1 rfl) 0).trans rfl) a _ c ((raw_cell (H2.heap 2 rfl) _).trans hv)

/-! ### New -/
theorem new_law (n : Nat) (k : Int) (hk : k = n) (hn : n ≤ 64) : ∀ w, (Instr.makeSlice 56 (.int .i64 k) (.int .i64 k)).run Try.prog w =
    .ok (.slice (some ⟨w.heap.size, 0, none⟩) n n) (w.alloc (.cells (madeCells #[.slice none 0 0] n) 40)) := by
  subst hk
  exact run_make_row' (P := Try.prog) 56 40 (.slice none 0 0) 24 under_boxes info_bodies rfl .i64 .i64 n (by omega) (by omega)
def NewPost (n : Nat) (w : World) (e : Ending) (w' : World) : Prop := e = .returned (.pointer (some ⟨w.heap.size + 1, 0, none⟩)) ∧ w' = (w.alloc (.cells (madeCells #[.slice none 0 0] n) 40)).alloc (.cells #[.slice (some ⟨w.heap.size, 0, none⟩) n n] 58)
set_option maxRecDepth 10000 in
set_option maxHeartbeats 400000 in
theorem new_mid (n : Nat) (w : World) (hn : n ≤ 64) : Calls Try.prog 11 #[.int .i64 n] w (NewPost n w) := by
  have hmk := new_law n n rfl hn
  go_enter Try.func11, Try.ntmps11
  go_wp2
  go_ret
  exact ⟨rfl, rfl⟩
set_option maxRecDepth 10000 in
set_option maxHeartbeats 400000 in
theorem new_neg (z : Int) (w : World) (hn : z < 0) : Calls Try.prog 11 #[.int .i64 z] w (NewPost 0 w) := by
  have hmk := new_law 0 0 rfl (by omega)
  go_enter Try.func11, Try.ntmps11
  go_wp2
  go_ret
  exact ⟨rfl, rfl⟩
set_option maxRecDepth 10000 in
set_option maxHeartbeats 400000 in
theorem new_big (z : Int) (w : World) (hn : 64 < z) : Calls Try.prog 11 #[.int .i64 z] w (NewPost 64 w) := by
  have hmk := new_law 64 64 rfl (by omega)
  go_enter Try.func11, Try.ntmps11
  go_wp2
  go_ret
  exact ⟨rfl, rfl⟩
def newL (z : Int) : List (List Body) := List.replicate (min z.toNat 64) []
theorem boxes_empty (n : Nat) : ∀ P ∈ boxes (List.replicate n (.slice none 0 0)) (List.replicate n []), ∀ h, P h := by
  intro P hP h
  simp [boxes] at hP
  obtain ⟨_, rfl⟩ := hP
  have : rows 34 256 (.slice none 0 0) 0 [] h := by rw [rows_nil]; trivial
  simpa [bls] using this
theorem At.many {w0 w : World} {F : List SP} (H : At w0 F w) : ∀ (M : List SP), (∀ P ∈ M, ∀ h, P h) → At w0 (M ++ F) w
  | [], _ => H
  | P :: M, hM => ((At.many H M fun Q hQ => hM Q (by simp [hQ])).mk_fact (p := True) trivial).imp1 fun h _ => hM P (by simp) h
theorem NewPost.at_ {w0 w : World} {F : List SP} (H : At w0 F w) {n : Nat} {e : Ending} {w' : World} (h : NewPost n w e w') : ∃ bp, e = .returned (.pointer (some ⟨bp, 0, none⟩)) ∧ At w0 (mail bp (List.replicate n []) :: F) w' := by
  obtain ⟨rfl, rfl⟩ := h
  refine ⟨_, rfl, ?_⟩
  have e1 : madeCells #[.slice none 0 0] n = (List.replicate n (Value.slice none 0 0)).toArray := by
    apply Array.ext'
    rw [toList_madeCells_one]
  rw [e1]
  have H2 := (At.many H _ (boxes_empty n)).alloc (.cells (List.replicate n (Value.slice none 0 0)).toArray 40)
  have H3 := H2.alloc (.cells #[.slice (some ⟨w.heap.size, 0, none⟩) n n] 58)
  rw [World.size_alloc] at H3
  refine H3.imp fun h s => mail_shut (bs := w.heap.size) (vs := List.replicate n (.slice none 0 0)) (by simp) h ?_
  simpa using s
theorem new_c {w0 w : World} {F : List SP} (H : At w0 F w) (z : Int) :
    Calls Try.prog 11 #[.int .i64 z] w fun e w' => ∃ bp, e = .returned (.pointer (some ⟨bp, 0, none⟩)) ∧ At w0 (mail bp (newL z) :: F) w' := by
  unfold newL
  by_cases h1 : z < 0
  · refine (new_neg z w h1).mono fun e w' h => ?_
    have e0 : min z.toNat 64 = 0 := by omega
    rw [e0]
    exact h.at_ H
  · by_cases h2 : 64 < z
    · refine (new_big z w h2).mono fun e w' h => ?_
      have e0 : min z.toNat 64 = 64 := by omega
      rw [e0]
      exact h.at_ H
    · obtain ⟨n, rfl⟩ := Int.eq_ofNat_of_zero_le (by omega : 0 ≤ z)
      refine (new_mid n w (by omega)).mono fun e w' h => ?_
      have e0 : min (n : Int).toNat 64 = n := by omega
      rw [e0]
      exact h.at_ H

/-! ### What stays true -/
theorem MailOK.new (z : Int) : MailOK (newL z) := by
  refine ⟨by simp [newL]; omega, fun xs hx => ?_⟩
  simp [newL] at hx
  obtain ⟨_, rfl⟩ := hx
  exact ⟨by simp, fun x hx => by simp at hx⟩
theorem MailOK.getD {L : List (List Body)} (h : MailOK L) (k : Nat) : (L.getD k []).length ≤ 64 ∧ Full (L.getD k []) := by
  by_cases hk : k < L.length
  · have e : L.getD k [] = L[k] := getD_of (List.getElem?_eq_getElem hk)
    rw [e]
    exact h.2 _ (List.getElem_mem hk)
  · have e : L.getD k [] = [] := by simp [List.getD, List.getElem?_eq_none (by omega : L.length ≤ k)]
    rw [e]
    exact ⟨by simp, fun x hx => by simp at hx⟩
theorem MailOK.set {L : List (List Body)} (h : MailOK L) (k : Nat) {xs : List Body} (h1 : xs.length ≤ 64) (h2 : Full xs) : MailOK (L.set k xs) :=
  ⟨by simpa using h.1, fun ys hy => by
    rcases List.mem_or_eq_of_mem_set hy with h3 | rfl
    · exact h.2 _ h3
    · exact ⟨h1, h2⟩⟩
theorem MailOK.put {L : List (List Body)} (h : MailOK L) (k : Nat) {b : Body} (hb : b.length = 256) : MailOK (putL L k b) := by
  unfold putL
  split
  · exact h
  · split
    · exact h
    · have h1 := h.getD k
      refine h.set k (by rw [List.length_append, List.length_cons, List.length_nil]; omega) fun x hx => ?_
      simp at hx
      rcases hx with hx | rfl
      · exact h1.2 x hx
      · exact hb
theorem MailOK.fetch {L : List (List Body)} (h : MailOK L) (k : Nat) (n : Int) : MailOK (fetchL L k n) := by
  unfold fetchL
  split
  · exact h
  · split
    · exact h
    · have h1 := h.getD k
      exact h.set k (by rw [List.length_drop]; omega) (h1.2.drop _)
theorem fetchX_full {L : List (List Body)} (h : MailOK L) (k : Nat) (n : Int) : Full (fetchX L k n) ∧ (fetchX L k n).length ≤ 64 := by
  unfold fetchX
  split
  · exact ⟨fun x hx => by simp at hx, by simp⟩
  · split
    · exact ⟨fun x hx => by simp at hx, by simp⟩
    · have h1 := h.getD k
      exact ⟨h1.2.take _, by rw [List.length_take]; omega⟩

/-! ### What they come to, case by case -/
theorem getD_set {L : List (List Body)} {k : Nat} (hk : k < L.length) (xs : List Body) : (L.set k xs).getD k [] = xs := by simp [List.getD, hk]
theorem put_facts {L : List (List Body)} {k : Nat} (hk : k < L.length) (h : (L.getD k []).length < 64) (b : Body) : putE L k = 0 ∧ (putL L k b).length = L.length ∧ (putL L k b).getD k [] = L.getD k [] ++ [b] := by
  unfold putE putL
  rw [if_neg (by omega), if_neg (by omega), if_neg (by omega), if_neg (by omega)]
  exact ⟨rfl, by simp, getD_set hk _⟩
theorem put_facts_full {L : List (List Body)} {k : Nat} (hk : k < L.length) (h : 64 ≤ (L.getD k []).length) (b : Body) : putE L k = 8 ∧ putL L k b = L := by
  unfold putE putL
  rw [if_neg (by omega), if_pos h, if_neg (by omega), if_pos h]
  exact ⟨rfl, rfl⟩
theorem put_facts_none {L : List (List Body)} {k : Nat} (hk : L.length ≤ k) (b : Body) : putE L k = 10 ∧ putL L k b = L := by
  unfold putE putL
  rw [if_pos hk, if_pos hk]
  exact ⟨rfl, rfl⟩
theorem fetch_facts {L : List (List Body)} {k : Nat} (hk : k < L.length) {n : Int} (h : 0 ≤ n) : fetchE L k n = 0 ∧ fetchX L k n = (L.getD k []).take n.toNat ∧ (fetchL L k n).length = L.length ∧ (fetchL L k n).getD k [] = (L.getD k []).drop n.toNat := by
  unfold fetchE fetchX fetchL
  simp only [if_neg (show ¬ L.length ≤ k by omega), if_neg (show ¬ n < 0 by omega)]
  exact ⟨trivial, trivial, by simp, getD_set hk _⟩
theorem getD_new (z : Int) (k : Nat) : (newL z).getD k [] = [] := by
  unfold newL
  rw [List.getD_eq_getElem?_getD, List.getElem?_replicate]
  split <;> rfl
theorem length_new (z : Int) : (newL z).length = min z.toNat 64 := by simp [newL]
end Go.Proofs.Ytogicnbocefkbaa
