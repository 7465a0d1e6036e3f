/-
  What the library does for a route: Clone, IndexFunc, DeleteFunc with what is compared, Delete.
-/
import Derived.Test.YtddddlphnoicpaaRouteA
import Derived.Test.YtddddlphnoicpaaDraw
namespace Go.Proofs.Ytddddlphnoicpaa
open Go.RowKit Go.Hg
set_option linter.unusedSimpArgs false
set_option linter.unusedVariables false
theorem slice_eq_nil (a : Addr) (n c : Nat) (w : World) : (binOp BinOp.eql 23 (.slice (some a) n c) (.slice none 0 0)).run Try.prog w = .ok (.bool false) w := by kernel_rfl
set_option maxRecDepth 10000 in
set_option maxHeartbeats 1000000 in
theorem clone_c {w0 w : World} {F : List SP} {v : Value} {xs : List Int} (H : At w0 F w) (hv : Sees w0 F .u16 v xs) (hl : xs.length ≤ 1000000) (h0 : 0 < xs.length) :
    Calls Try.prog 16 #[v] w fun e w' => ∃ a cap, e = .returned (.slice a xs.length cap) ∧ At w0 (lrow 25 1 (ic .u16) (.slice a xs.length cap) xs :: F) w' := by
  have hv2 := hv
  obtain ⟨a, cap, b, off, rfl, hc, ha, hcell⟩ := hv
  obtain rfl := ha h0
  have hnil := slice_eq_nil
  go_enter Try.func16, Try.ntmps16
  go_wp2_with ((with_reducible refine wpList_op rfl ?_); intro _ hK; first | (refine wp_lnew el_a _ under_Addrs rfl H (fun B w' H => hK _ _ ?_)) | (refine wp_lapp el_a (xs := []) (ys := xs) _ _ under_Addrs (.inl ⟨_, under_Addrs⟩) _ _ rfl rfl H rfl (sees_src H (hv2.more _)) (by simp [maxLen]; omega) (by simp; omega) (fun b1 c1 w' H => hK _ _ ?_)))
  go_ret
  exact ⟨_, _, rfl, H⟩
set_option maxRecDepth 10000 in
theorem lit_c (x last : Int) (B : Nat) (w : World) (hb : w.cell? ⟨B, 0, none⟩ = some (.int .u16 last)) : Calls Try.prog 17 #[.int .u16 x, .pointer (some ⟨B, 0, none⟩)] w fun e w' => e = .returned (.bool (decide (x = last))) ∧ w = w' := by
  go_enter Try.func17, Try.ntmps17
  go_wp2
  go_ret
  exact ⟨rfl, rfl⟩
set_option maxRecDepth 10000 in
set_option maxHeartbeats 1000000 in
theorem indexFunc_c {w0 w : World} {F : List SP} {v : Value} {xs : List Int} (H : At w0 F w) (hv : Sees w0 F .u16 v xs) (hl : xs.length ≤ 1000000) {B : Nat} {last : Int} (hb : w.cell? ⟨B, 0, none⟩ = some (.int .u16 last)) :
    Calls Try.prog 21 #[v, .func (.func 17) #[] #[.pointer (some ⟨B, 0, none⟩)]] w fun e w' => w = w' ∧ ∃ z, e = .returned (.int .i64 z) ∧ ((z = -1 ∧ ∀ i, i < xs.length → gz xs i ≠ last) ∨ ∃ j : Nat, z = j ∧ j < xs.length ∧ gz xs j = last ∧ ∀ i, i < j → gz xs i ≠ last) := by
  obtain ⟨a, cap, b, off, rfl, hc, ha, hcell⟩ := hv
  have hcw := hcell w H
  clear hcell
  go_enter Try.func21, Try.ntmps21
  go_wp2_with fail
  go_loop [8] (fun i => ∃ j : Nat, j ≤ xs.length ∧ i = .int .i64 j ∧ (∀ i, i < j → gz xs i ≠ last)) (fun i => xs.length - (intOf i).toNat)
  case atStart => exact ⟨0, by omega, rfl, fun i h => absurd h (by omega)⟩
  case round =>
    obtain ⟨j, hj, rfl, hr⟩ := hrel
    have HR := Lib.hid hr
    clear hr
    by_cases hlt : (j : Int) < xs.length
    · obtain rfl := ha (by omega)
      have hbj := hcw j (by omega)
      go_wp2_with fail
      refine (lit_c (gz xs j) last B w hb).mono ?_; rintro e w' ⟨rfl, rfl⟩
      by_cases he : gz xs j = last
      · rw [decide_eq_true he]
        go_wp2
        go_ret
        exact ⟨rfl, _, rfl, .inr ⟨j, rfl, by omega, he, HR.out⟩⟩
      · rw [decide_eq_false he]
        go_wp2
        go_round
        case rel => exact ⟨j + 1, by omega, by go_num, fun i h => by
          by_cases e : i = j
          · subst e; exact he
          · exact HR.out i (by omega)⟩
        case measure => simp [intOf]; omega
    · have hj2 : j = xs.length := by omega
      subst hj2
      go_wp2
      go_ret
      exact ⟨rfl, _, rfl, .inl ⟨rfl, HR.out⟩⟩
/-- All but one. -/
def others (last : Int) (xs : List Int) : List Int := xs.filter (fun x => x != last)
theorem others_snoc {last : Int} {ys : List Int} {j : Nat} (h : j < ys.length) : others last (ys.take (j + 1)) = others last (ys.take j) ++ (if gz ys j = last then [] else [gz ys j]) := by
  have e : ys.take (j + 1) = ys.take j ++ [gz ys j] := by rw [List.take_add_one, gz_get h]; rfl
  unfold others
  rw [e, List.filter_append]
  congr 1
  by_cases h2 : gz ys j = last
  · rw [if_pos h2]; simp [h2]
  · rw [if_neg h2]; simp [h2]
theorem others_all {last : Int} {ys : List Int} {j : Nat} (hj : j ≤ ys.length) (h : ∀ i, i < j → gz ys i ≠ last) : others last (ys.take j) = ys.take j := by
  unfold others
  rw [List.filter_eq_self]
  intro x hx
  obtain ⟨i, hi⟩ := List.getElem?_of_mem hx
  have hlt := (List.getElem?_eq_some_iff.1 hi).1
  rw [List.length_take] at hlt
  rw [List.getElem?_take, if_pos (by omega)] at hi
  have := h i (by omega)
  rw [gz_of hi] at this
  simpa using this
def DelR (w0 : World) (F : List SP) (g off cap : Nat) (last : Int) (ys : List Int) (i j : Nat) (w : World) : Prop :=
  ∃ zs, zs.length = ys.length ∧ zs.take i = others last (ys.take j) ∧ zs.drop j = ys.drop j ∧ At w0 (lrow 25 1 (ic .u16) (.slice (some ⟨g, off, none⟩) zs.length cap) zs :: F) w
theorem zero_addr (w : World) : (zeroValue 25).run Try.prog w = .ok (.int .u16 0) w := by kernel_rfl
set_option maxRecDepth 10000 in
set_option maxHeartbeats 2000000 in
theorem deleteFunc_c {w0 w : World} {F : List SP} {a : Option Addr} {cap : Nat} {ys : List Int} (H : At w0 (lrow 25 1 (ic .u16) (.slice a ys.length cap) ys :: F) w) (hl : ys.length ≤ 1000000) {B : Nat} {last : Int} (hm : last ∈ ys) (q : Nat) (hB : F[q]? = some (raw B #[.int .u16 last] 25)) :
    Calls Try.prog 15 #[.slice a ys.length cap, .func (.func 17) #[] #[.pointer (some ⟨B, 0, none⟩)]] w fun e w' => ∃ g off, e = .returned (.slice (some ⟨g, off, none⟩) (others last ys).length cap) ∧ At w0 (lrow 25 1 (ic .u16) (.slice (some ⟨g, off, none⟩) (others last ys).length cap) (others last ys) :: F) w' := by
  have hpos : 0 < ys.length := List.length_pos_of_mem hm
  obtain ⟨g, off, rfl⟩ := lrow_place H 0 rfl hpos
  have hs := sees_own (F := lrow 25 1 (ic .u16) (.slice (some ⟨g, off, none⟩) ys.length cap) ys :: F) el_a H 0 rfl
  have hbw : ∀ {X : SP} {w' : World}, At w0 (X :: F) w' → w'.cell? ⟨B, 0, none⟩ = some (.int .u16 last) := fun {X w'} h => raw_at (h.heap (q + 1) (by simpa using hB)) rfl
  have hcap : ys.length ≤ cap := by
    have h := H
    unfold lrow at h
    obtain ⟨_, _, h, _⟩ := At.rows_blk h
    exact h
  go_enter Try.func15, Try.ntmps15
  go_wp2_with fail
  refine (indexFunc_c H hs hl (hbw H)).mono ?_; rintro e w' ⟨rfl, z, rfl, h⟩
  rcases h with ⟨_, h⟩ | ⟨j0, rfl, h1, h2, h3⟩
  · obtain ⟨i, hi, e⟩ := mem_gz hm
    exact absurd e (h i hi)
  have hne : ¬ (j0 : Int) = -1 := by omega
  have hstart : DelR w0 F g off cap last ys j0 (j0 + 1) w := ⟨ys, rfl, by rw [others_snoc h1, if_pos h2, List.append_nil, others_all (by omega) h3], rfl, H⟩
  have h1' : (j0 : Int) < ys.length := by omega
  clear h2 h3 hm hs H
  go_wp2_with fail
  go_loopw [5, 6] (fun i j wr => ∃ i' j' : Nat, i' < j' ∧ j' ≤ ys.length ∧ i = .int .i64 i' ∧ j = .int .i64 j' ∧ DelR w0 F g off cap last ys i' j' wr) (fun _ j _ => ys.length - (intOf j).toNat)
  case atStart => exact ⟨j0, j0 + 1, by omega, by omega, rfl, by go_num, hstart⟩
  case round =>
    clear hstart h1 h1' hne
    obtain ⟨i, j, hij, hj, rfl, rfl, zs, hz1, hz2, hz3, H⟩ := hrel
    have HZ1 := Lib.hid hz1
    have HZ2 := Lib.hid hz2
    have HZ3 := Lib.hid hz3
    by_cases hlt : (j : Int) < ys.length
    · have hjl : j < ys.length := by omega
      have hzj : gz zs j = gz ys j := by
        have e1 : (zs.drop j)[0]? = (ys.drop j)[0]? := by rw [hz3]
        rw [List.getElem?_drop, List.getElem?_drop, Nat.add_zero, gz_get hjl, gz_get (by omega)] at e1
        simpa using e1
      have hcj : wr.cell? ⟨g, off + j, none⟩ = some (.int .u16 (gz ys j)) := by
        have := lrow_cell el_a (j := 0) H 0 rfl (gz_get (by omega : j < zs.length)) rfl
        rw [hzj] at this
        simpa using this
      have hsn := others_snoc (last := last) hjl
      have hi2 : (i : Int) < ys.length := by omega
      have hb := hbw H
      have hz4 : zs.drop (j + 1) = ys.drop (j + 1) := by rw [← List.drop_drop, hz3, List.drop_drop]
      clear hz1 hz2 hz3 hzj
      by_cases he : gz ys j = last
      · rw [if_pos he, List.append_nil] at hsn
        have HSN := Lib.hid hsn
        have HZ4 := Lib.hid hz4
        have HE := Lib.hid he
        clear hsn hz4 he
        go_wp2_with fail
        refine (lit_c (gz ys j) last B wr hb).mono ?_; rintro e w' ⟨rfl, rfl⟩
        rw [decide_eq_true HE.out]
        go_wp2
        refine ⟨?_, ?measure⟩
        iterate 60 (try apply Exists.intro)
        refine ⟨?rel, rfl⟩
        case rel => exact ⟨i, j + 1, by omega, by omega, rfl, by go_num, zs, HZ1.out, by rw [HSN.out]; exact HZ2.out, HZ4.out, H⟩
        case measure => simp [intOf]; omega
      · rw [if_neg he] at hsn
        have HSN := Lib.hid hsn
        have HZ4 := Lib.hid hz4
        clear hsn hz4
        have hiz : i < zs.length := by have := HZ1.out; omega
        go_wp2_with fail
        refine (lit_c (gz ys j) last B wr hb).mono ?_; rintro e w' ⟨rfl, rfl⟩
        rw [decide_eq_false he]
        clear hb hcj
        go_wp2_with ((with_reducible refine wpList_op rfl ?_); intro _ hK; refine wp_lstore el_a (i := i) (z := gz ys j) _ _ rfl (by simp; rfl) rfl rfl H hiz (fun w' H => hK _ _ ?_))
        refine ⟨?_, ?measure⟩
        iterate 60 (try apply Exists.intro)
        refine ⟨?rel, rfl⟩
        case rel => exact ⟨i + 1, j + 1, by omega, by omega, by go_num, by go_num, zs.set i (gz ys j), by rw [List.length_set]; exact HZ1.out, by
          rw [HSN.out, List.take_add_one, List.take_set_of_le (Nat.le_refl _), HZ2.out, List.getElem?_set_self hiz]; rfl, by
          rw [List.drop_set_of_lt (by omega)]; exact HZ4.out, H⟩
        case measure => simp [intOf]; omega
    · have hj2 : j = ys.length := by omega
      subst hj2
      rw [List.take_of_length_le (Nat.le_refl _)] at hz2
      have hiy : i < zs.length := by omega
      have hti : (zs.take i).length = i := by rw [List.length_take]; omega
      have H2 := At.lrow_take el_a (ys := zs) H (q := i) (by omega)
      have HTI := Lib.hid hti
      have HO := Lib.hid hz2
      have q1 : (i : Int) ≤ ys.length := by omega
      have q2 : (i : Int) ≤ cap := by omega
      have q3 : ¬ cap = i := by omega
      clear hz1 hz2 hz3 hti H hbw
      go_wp2_with ((with_reducible refine wpList_op rfl ?_); intro _ hK; refine wp_lclear_behind el_a (ys := zs.take i) _ under_Addrs _ rfl rfl (by rw [HTI.out, Nat.mul_one]) zero_addr rfl (by simp [Value.cells, Value.oneCell']) (by omega) H2 (by have := HTI.out; omega) (fun w' H => hK _ _ ?_))
      go_ret
      refine ⟨g, off, ?_, ?_⟩
      · rw [← HO.out, HTI.out]; rfl
      · rw [← HO.out]; exact H
set_option maxRecDepth 10000 in
set_option maxHeartbeats 2000000 in
theorem delete_c {w0 w : World} {F : List SP} {a : Option Addr} {cap : Nat} {ys : List Int} (H : At w0 (lrow 25 1 (ic .u16) (.slice a ys.length cap) ys :: F) w) (hl : ys.length ≤ 1000000) (i : Nat) (hi : i < ys.length) (j : Int) (hj : j = (i : Int) + 1) :
    Calls Try.prog 18 #[.slice a ys.length cap, .int .i64 i, .int .i64 j] w fun e w' => e = .returned (.slice a (ys.length - 1) cap) ∧ At w0 (lrow 25 1 (ic .u16) (.slice a (ys.eraseIdx i).length cap) (ys.eraseIdx i) :: F) w' := by
  subst hj
  obtain ⟨g, off, rfl⟩ := lrow_place H 0 rfl (by omega)
  have hcap : ys.length ≤ cap := by
    have h := H
    unfold lrow at h
    obtain ⟨_, _, h, _⟩ := At.rows_blk h
    exact h
  have HE := Lib.hid (List.eraseIdx_eq_take_drop_succ (l := ys) (i := i))
  have p1 : (i : Int) + 1 ≤ ys.length := by omega
  have p2 : (i : Int) ≤ (i : Int) + 1 := by omega
  have p3 : ¬ (i : Int) = (i : Int) + 1 := by omega
  have p4 : i ≤ cap := by omega
  have p5 : (i : Int) ≤ cap := by omega
  have p6 : (ys.length : Int) ≤ cap := by omega
  go_enter Try.func18, Try.ntmps18
  go_wp2_with fail
  by_cases hce : cap = i + 1
  · have hd : ys.drop (i + 1) = [] := List.drop_of_length_le (by omega)
    have HD := Lib.hid hd
    have hlen0 : ys.length - (i + 1) = 0 := by omega
    clear hd
    subst hce
    refine wpM_begin [6, 7] ((At w0 (lrow 25 1 (ic .u16) (.slice (some ⟨g, off, none⟩) ys.length (i + 1)) ys :: F))) [(0, 2), (1, 2), (2, 2), (3, 2), (4, 2), (5, 2), (6, 0), (7, 0)] rfl (by kernel_rfl) (by kernel_rfl) ((H.drew)) ?_
    intro ops hOps hS
    replace H := H.drew
    have hsrc := lrow_src_drop el_a H 0 rfl (i + 1) ((i + 1) - (i + 1)) (by omega)
    rw [Nat.mul_one] at hsrc
    refine wpM_free hOps rfl (fun _ _ _ h => h) (yl_move rfl _ rfl) ?_
    simp only [Act.put, Act.eval, List.setIfInBounds_toArray, List.set_cons_zero, List.set_cons_succ, Array.getD_eq_getD_getElem?, List.getElem?_toArray, List.getElem?_cons_zero, List.getElem?_cons_succ, Option.getD_some]
    refine wpM_free hOps rfl (fun _ _ _ h => h) (yl_move rfl _ rfl) ?_
    simp only [Act.put, Act.eval, List.setIfInBounds_toArray, List.set_cons_zero, List.set_cons_succ, Array.getD_eq_getD_getElem?, List.getElem?_toArray, List.getElem?_cons_zero, List.getElem?_cons_succ, Option.getD_some]
    refine wpM_free hOps (v := ?vOp11) rfl (fun _ _ _ h => h) (yl rfl ?yOp11) ?_
    case yOp11 => (intro w hw; go_simp; first | done | rfl)
    simp only [Act.put, Act.eval, List.setIfInBounds_toArray, List.set_cons_zero, List.set_cons_succ, Array.getD_eq_getD_getElem?, List.getElem?_toArray, List.getElem?_cons_zero, List.getElem?_cons_succ, Option.getD_some]
    refine wpM_free hOps rfl (fun _ _ _ h => h) (yl_move rfl _ rfl) ?_
    simp only [Act.put, Act.eval, List.setIfInBounds_toArray, List.set_cons_zero, List.set_cons_succ, Array.getD_eq_getD_getElem?, List.getElem?_toArray, List.getElem?_cons_zero, List.getElem?_cons_succ, Option.getD_some]
    refine wpM_free hOps rfl (fun _ _ _ h => h) (yl_move rfl _ rfl) ?_
    simp only [Act.put, Act.eval, List.setIfInBounds_toArray, List.set_cons_zero, List.set_cons_succ, Array.getD_eq_getD_getElem?, List.getElem?_toArray, List.getElem?_cons_zero, List.getElem?_cons_succ, Option.getD_some]
    refine wpM_free hOps (v := ?vOp19) rfl (fun _ _ _ h => h) (yl rfl ?yOp19) ?_
    case yOp19 => (intro w hw; go_simp; first | done | rfl)
    simp only [Act.put, Act.eval, List.setIfInBounds_toArray, List.set_cons_zero, List.set_cons_succ, Array.getD_eq_getD_getElem?, List.getElem?_toArray, List.getElem?_cons_zero, List.getElem?_cons_succ, Option.getD_some]
    refine wpM_next hOps rfl rfl ?_
    intro K hK
    refine wp_lapp_stay el_a (xs := ys.take i) (ys := ([] : List Int)) (n := i) (m := ys.length - 1) _ _ under_Addrs (.inl ⟨_, under_Addrs⟩) _ _ rfl rfl (by rw [List.length_take]; omega) (by simp; omega) (At.lrow_take el_a (ys := ys) H (q := i) (by omega)) rfl (by first | exact lrow_src_zero _ _ | (rw [hlen0]; exact lrow_src_zero _ _)) (by simp; omega) (fun w' H => ?_)
    refine hK _ _ (.inl (by decide)) ?_
    clear hK K
    simp only [Act.put, Act.eval, List.setIfInBounds_toArray, List.set_cons_zero, List.set_cons_succ, Array.getD_eq_getD_getElem?, List.getElem?_toArray, List.getElem?_cons_zero, List.getElem?_cons_succ, Option.getD_some]
    refine wpM_next hOps rfl rfl ?_
    intro K hK
    refine wp_run rfl ?_
    refine hK _ _ (.inl (by decide)) ?_
    clear hK K
    simp only [Act.put, Act.eval, List.setIfInBounds_toArray, List.set_cons_zero, List.set_cons_succ, Array.getD_eq_getD_getElem?, List.getElem?_toArray, List.getElem?_cons_zero, List.getElem?_cons_succ, Option.getD_some]
    refine wpM_end ?_
    clear hOps hS ops
    have hlen : (ys.take i ++ ([] : List Int)).length = ys.length - 1 := by simp; omega
    have HLEN := Lib.hid hlen
    have q5 : IntKind.i64.wrap ((ys.length - 1 : Nat) : Int) = ((ys.length - 1 : Nat) : Int) := by rw [IntKind.wrap_i64]; omega
    have q6 : ys.length - (ys.length - 1) = 1 := by omega
    have q7 : ¬ (i + 1) = ys.length - 1 := by omega
    have q8 : ((ys.length - 1 : Nat) : Int) ≤ ys.length := by omega
    clear hlen
    go_wp2_with ((with_reducible refine wpList_op rfl ?_); intro _ hK; refine wp_lclear_behind el_a (ys := ys.take i ++ ([] : List Int)) (k := 1) _ under_Addrs _ rfl rfl (by rw [HLEN.out]; omega) zero_addr rfl (by simp [Value.cells, Value.oneCell']) (by omega) H (by rw [HLEN.out]; omega) (fun w' H => hK _ _ ?_))
    go_ret
    refine ⟨rfl, ?_⟩
    rw [HE.out]
    rw [HD.out]
    exact H
  · refine wpM_begin [6, 7] ((At w0 (lrow 25 1 (ic .u16) (.slice (some ⟨g, off, none⟩) ys.length cap) ys :: F))) [(0, 2), (1, 2), (2, 2), (3, 2), (4, 2), (5, 2), (6, 0), (7, 0)] rfl (by kernel_rfl) (by kernel_rfl) ((H.drew)) ?_
    intro ops hOps hS
    replace H := H.drew
    have hsrc := lrow_src_drop el_a H 0 rfl (i + 1) (cap - (i + 1)) (by omega)
    rw [Nat.mul_one] at hsrc
    refine wpM_free hOps rfl (fun _ _ _ h => h) (yl_move rfl _ rfl) ?_
    simp only [Act.put, Act.eval, List.setIfInBounds_toArray, List.set_cons_zero, List.set_cons_succ, Array.getD_eq_getD_getElem?, List.getElem?_toArray, List.getElem?_cons_zero, List.getElem?_cons_succ, Option.getD_some]
    refine wpM_free hOps rfl (fun _ _ _ h => h) (yl_move rfl _ rfl) ?_
    simp only [Act.put, Act.eval, List.setIfInBounds_toArray, List.set_cons_zero, List.set_cons_succ, Array.getD_eq_getD_getElem?, List.getElem?_toArray, List.getElem?_cons_zero, List.getElem?_cons_succ, Option.getD_some]
    refine wpM_free hOps (v := ?vOp37) rfl (fun _ _ _ h => h) (yl rfl ?yOp37) ?_
    case yOp37 => (intro w hw; go_simp; first | done | rfl)
    simp only [Act.put, Act.eval, List.setIfInBounds_toArray, List.set_cons_zero, List.set_cons_succ, Array.getD_eq_getD_getElem?, List.getElem?_toArray, List.getElem?_cons_zero, List.getElem?_cons_succ, Option.getD_some]
    refine wpM_free hOps rfl (fun _ _ _ h => h) (yl_move rfl _ rfl) ?_
    simp only [Act.put, Act.eval, List.setIfInBounds_toArray, List.set_cons_zero, List.set_cons_succ, Array.getD_eq_getD_getElem?, List.getElem?_toArray, List.getElem?_cons_zero, List.getElem?_cons_succ, Option.getD_some]
    refine wpM_free hOps rfl (fun _ _ _ h => h) (yl_move rfl _ rfl) ?_
    simp only [Act.put, Act.eval, List.setIfInBounds_toArray, List.set_cons_zero, List.set_cons_succ, Array.getD_eq_getD_getElem?, List.getElem?_toArray, List.getElem?_cons_zero, List.getElem?_cons_succ, Option.getD_some]
    refine wpM_free hOps (v := ?vOp45) rfl (fun _ _ _ h => h) (yl rfl ?yOp45) ?_
    case yOp45 => (intro w hw; go_simp; first | done | rfl)
    simp only [Act.put, Act.eval, List.setIfInBounds_toArray, List.set_cons_zero, List.set_cons_succ, Array.getD_eq_getD_getElem?, List.getElem?_toArray, List.getElem?_cons_zero, List.getElem?_cons_succ, Option.getD_some]
    refine wpM_next hOps rfl rfl ?_
    intro K hK
    refine wp_lapp_stay el_a (xs := ys.take i) (ys := (ys.drop (i + 1))) (n := i) (m := ys.length - 1) _ _ under_Addrs (.inl ⟨_, under_Addrs⟩) _ _ rfl rfl (by rw [List.length_take]; omega) (by simp; omega) (At.lrow_take el_a (ys := ys) H (q := i) (by omega)) rfl (hsrc) (by simp; omega) (fun w' H => ?_)
    refine hK _ _ (.inl (by decide)) ?_
    clear hK K
    simp only [Act.put, Act.eval, List.setIfInBounds_toArray, List.set_cons_zero, List.set_cons_succ, Array.getD_eq_getD_getElem?, List.getElem?_toArray, List.getElem?_cons_zero, List.getElem?_cons_succ, Option.getD_some]
    refine wpM_next hOps rfl rfl ?_
    intro K hK
    refine wp_run rfl ?_
    refine hK _ _ (.inl (by decide)) ?_
    clear hK K
    simp only [Act.put, Act.eval, List.setIfInBounds_toArray, List.set_cons_zero, List.set_cons_succ, Array.getD_eq_getD_getElem?, List.getElem?_toArray, List.getElem?_cons_zero, List.getElem?_cons_succ, Option.getD_some]
    refine wpM_end ?_
    clear hOps hS ops
    have hlen : (ys.take i ++ (ys.drop (i + 1))).length = ys.length - 1 := by simp; omega
    have HLEN := Lib.hid hlen
    have q5 : IntKind.i64.wrap ((ys.length - 1 : Nat) : Int) = ((ys.length - 1 : Nat) : Int) := by rw [IntKind.wrap_i64]; omega
    have q6 : ys.length - (ys.length - 1) = 1 := by omega
    have q7 : ¬ cap = ys.length - 1 := by omega
    have q8 : ((ys.length - 1 : Nat) : Int) ≤ ys.length := by omega
    clear hlen
    go_wp2_with ((with_reducible refine wpList_op rfl ?_); intro _ hK; refine wp_lclear_behind el_a (ys := ys.take i ++ (ys.drop (i + 1))) (k := 1) _ under_Addrs _ rfl rfl (by rw [HLEN.out]; omega) zero_addr rfl (by simp [Value.cells, Value.oneCell']) (by omega) H (by rw [HLEN.out]; omega) (fun w' H => hK _ _ ?_))
    go_ret
    refine ⟨rfl, ?_⟩
    rw [HE.out]
    exact H
end Go.Proofs.Ytddddlphnoicpaa
