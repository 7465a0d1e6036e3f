/-
  An element of an owned slice that holds a list is written over; a slice of it is taken; its end is cleared. No program in sight.
-/
import Derived.Test.YtgdphamdbpkjdaaDoorList
namespace Go.Hg
open Go.RowKit
set_option linter.unusedVariables false
theorem At.rows_blk {w0 w : World} {L : List SP} {e : TypeId} {size n g off cap : Nat} {xs : List Value} (H : At w0 (rows e size (.slice (some ⟨g, off, none⟩) n cap) n xs :: L) w) :
    ∃ cur, w.heap[g]? = some (.cells cur e (0, 0)) ∧ n ≤ cap ∧ cap ≤ maxLen ∧ off + cap * size ≤ cur.size ∧ (cur.toList.drop off).take (n * size) = xs := by
  obtain ⟨hb, h, ⟨h1, h2, p, q, d, l1, l2⟩, s, u⟩ := H
  unfold rows at p
  rcases p.2 with ⟨hv, _⟩ | ⟨g', off', cap', cur, hv, hg, h1, h2, h3, h4⟩
  · cases hv
  · cases hv
    exact ⟨cur, s g _ (l1 g _ hg), h1, h2, h3, h4⟩
theorem splice_mid (A B : List Value) (off p m : Nat) (h1 : p + B.length ≤ m) (h2 : off + m ≤ A.length) :
    ((A.take (off + p) ++ B ++ A.drop (off + p + B.length)).drop off).take m = ((A.drop off).take m).take p ++ B ++ ((A.drop off).take m).drop (p + B.length) := by
  apply List.ext_getElem?
  intro j
  simp only [List.getElem?_append, List.getElem?_take, List.getElem?_drop, List.length_append, List.length_take, List.length_drop]
  repeat' split
  all_goals first | rfl | omega | (congr 1; omega) | (exfalso; omega) | skip
  all_goals first | (symm; apply List.getElem?_eq_none; omega) | (apply List.getElem?_eq_none; omega) | skip
section
variable {α : Type} {P : Program} {e : TypeId} {size by_ : Nat} {c : α → List Value} {w w0 : World} {L : List SP}
theorem El.cl_take (E : El P e size by_ c) (xs : List α) (q : Nat) : (cl c xs).take (q * size) = cl c (xs.take q) := by
  have h := E.cl_length (xs.take q)
  have e1 : cl c xs = cl c (xs.take q) ++ cl c (xs.drop q) := by rw [← cl_append, List.take_append_drop]
  rcases Nat.le_total q xs.length with hq | hq
  · rw [List.length_take, Nat.min_eq_left hq] at h
    rw [e1, ← h, List.take_left]
  · rw [List.take_of_length_le hq, List.take_of_length_le (by rw [E.cl_length]; exact Nat.mul_le_mul_right _ hq)]
theorem El.cl_drop (E : El P e size by_ c) (xs : List α) (q : Nat) : (cl c xs).drop (q * size) = cl c (xs.drop q) := by
  have h := E.cl_length (xs.take q)
  have e1 : cl c xs = cl c (xs.take q) ++ cl c (xs.drop q) := by rw [← cl_append, List.take_append_drop]
  rcases Nat.le_total q xs.length with hq | hq
  · rw [List.length_take, Nat.min_eq_left hq] at h
    rw [e1, ← h, List.drop_left]
  · rw [List.drop_of_length_le hq, List.drop_of_length_le (by rw [E.cl_length]; exact Nat.mul_le_mul_right _ hq)]; rfl
theorem El.cl_set (E : El P e size by_ c) {ys : List α} {i : Nat} (hi : i < ys.length) (z : α) : cl c (ys.set i z) = (cl c ys).take (i * size) ++ c z ++ (cl c ys).drop (i * size + (c z).length) := by
  rw [List.set_eq_take_append_cons_drop, if_pos hi, E.len z, ← Nat.succ_mul, E.cl_take, E.cl_drop, cl_append]
  show cl c (ys.take i) ++ (c z ++ cl c (ys.drop (i + 1))) = _
  rw [← List.append_assoc]
variable {o : Oper} {a : Act} {K : Act → World → Prop} {Q : Exit → Act → World → Prop}
/-- One element is written over. -/
theorem wp_lstore (E : El P e size by_ c) (x y : Operand) (ho : o.op = .store e x y) {g off cap i : Nat} {ys : List α} {z : α}
    (hx : a.eval x = .pointer (some ⟨g, off + i * size, none⟩)) {v : Value} (hy : a.eval y = v) (hv : v.cells = (c z).toArray) (H : At w0 (lrow e size c (.slice (some ⟨g, off, none⟩) ys.length cap) ys :: L) w) (hlt : i < ys.length)
    (h : ∀ w', At w0 (lrow e size c (.slice (some ⟨g, off, none⟩) (ys.set i z).length cap) (ys.set i z) :: L) w' → K (a.put o.dst undef) w') : OWp P o a w K Q := by
  unfold lrow at H h
  obtain ⟨cur, hb, hn, hm, hs, ht⟩ := At.rows_blk H
  have hl := E.len z
  have hls := E.cl_length ys
  have hcap : ys.length * size ≤ cap * size := Nat.mul_le_mul_right _ hn
  have hi1 : (i + 1) * size ≤ ys.length * size := Nat.mul_le_mul_right _ hlt
  rw [Nat.add_mul, Nat.one_mul] at hi1
  have hst := run_storeCells_at P g (off + i * size) e (c z) 0 cur w hb (by omega) (E.one z)
  simp only [Nat.add_zero] at hst
  have H2 := At.rows_upd H (n' := (ys.set i z).length) (cur' := (cur.toList.take (off + i * size) ++ c z ++ cur.toList.drop (off + i * size + (c z).length)).toArray) (xs' := cl c (ys.set i z)) hb (by simpa using hn) hm
    (by simp; omega) (E.cl_length _) (by
      simp only [List.length_set]
      rw [splice_mid cur.toList (c z) off (i * size) (ys.length * size) (by omega) (by simp; omega), ht, E.cl_set hlt])
  have h3 := h _ H2
  obtain ⟨z', hi, _⟩ := E.info
  obtain ⟨i', hi, _, hsz, _⟩ := info_of hi
  have hcs : v.cells.size = size := by rw [hv]; simpa using hl
  have hcl : v.cells.toList = c z := by rw [hv]
  refine owp ?_
  unfold Oper.wp execOp
  simp only [ho, Instr.storeAt, hx, hy, Instr.sureAddr, storeVar, sizeOf, typeInfo, Sem.run_bind, Sem.run_pure, Result.andThen_ok]
  simp only [Sem.run, program, hi, Sem.run_pure, Result.andThen_ok, hsz, hcs, ne_eq, not_true_eq_false, if_false, hcl]
  simp [hst, Oper.upon]
  simpa using h3
/-- What the store of one element's cells does. -/
theorem lrow_set_run (E : El P e size by_ c) {g off cap i : Nat} {ys : List α} (z : α) (H : At w0 (lrow e size c (.slice (some ⟨g, off, none⟩) ys.length cap) ys :: L) w) (hlt : i < ys.length) :
    ∃ w', (storeCells ⟨g, off + i * size, none⟩ (c z)).run P w = .ok () w' ∧ At w0 (lrow e size c (.slice (some ⟨g, off, none⟩) (ys.set i z).length cap) (ys.set i z) :: L) w' := by
  unfold lrow at H ⊢
  obtain ⟨cur, hb, hn, hm, hs, ht⟩ := At.rows_blk H
  have hl := E.len z
  have hcap : ys.length * size ≤ cap * size := Nat.mul_le_mul_right _ hn
  have hi1 : (i + 1) * size ≤ ys.length * size := Nat.mul_le_mul_right _ hlt
  rw [Nat.add_mul, Nat.one_mul] at hi1
  have hst := run_storeCells_at P g (off + i * size) e (c z) 0 cur w hb (by omega) (E.one z)
  simp only [Nat.add_zero] at hst
  exact ⟨_, hst, At.rows_upd H (n' := (ys.set i z).length) (cur' := (cur.toList.take (off + i * size) ++ c z ++ cur.toList.drop (off + i * size + (c z).length)).toArray) (xs' := cl c (ys.set i z)) hb (by simpa using hn) hm
    (by simp; omega) (E.cl_length _) (by
      simp only [List.length_set]
      rw [splice_mid cur.toList (c z) off (i * size) (ys.length * size) (by omega) (by simp; omega), ht, E.cl_set hlt])⟩
/-- clear of a slice of one element. -/
theorem wp_lclear_one (E : El P e size by_ c) (t : TypeId) (ht : P.underlying t = some (.slice e)) (x : Operand) (ho : o.op = .call { callee := .builtin .clear, args := #[x], argTypes := #[t] }) {g off cap i q : Nat} {ys : List α} (z : α)
    (hx : a.eval x = .slice (some ⟨g, off + i * size, none⟩) 1 q) {zv : Value} (hz : ∀ w, (zeroValue e).run P w = .ok zv w) (hzc : (Builtin.zeroCells zv.cells 1).toList = c z) (H : At w0 (lrow e size c (.slice (some ⟨g, off, none⟩) ys.length cap) ys :: L) w) (hlt : i < ys.length)
    (h : ∀ w', At w0 (lrow e size c (.slice (some ⟨g, off, none⟩) (ys.set i z).length cap) (ys.set i z) :: L) w' → K (a.put o.dst (.tuple #[])) w') : OWp P o a w K Q := by
  obtain ⟨w', hr, H2⟩ := lrow_set_run E z H hlt
  have h3 := h _ H2
  refine owp ?_
  unfold Oper.wp execOp
  simp only [ho, resolve, invoke, builtin, Sem.run_bind, Sem.run_pure, Result.andThen_ok, List.map_toArray, List.map_cons, List.map_nil, hx]
  simp [Builtin.clear_, run_underlying ht, hz, hzc, hr, Oper.upon]
  exact h3
theorem yl_mid {P : Program} {ops : Array Oper} {S : World → Prop} {o : Oper} {a : Act} (hw : Region.wanted o (yielded ops a.tmps) = true) (ty : TypeId) (x : Operand) (ho : o.op = .load ty x) {b off : Nat} (hx : a.eval x = .pointer (some ⟨b, off, none⟩)) (cells : List Value)
    (hk : rowType P ty = true) (hi : (P.info? ty).map (·.size) = some cells.length) (hS : ∀ w, S w → w.rangeAt b off cells) : YieldsIf P ops S o (.agg cells.toArray) a := by
  obtain ⟨d, hu, hd⟩ := rowType_spec hk
  exact yieldsIf_load_mid hw ty x ho b off hx cells d hS hu hd hi
/-- The first ones, with all the room. -/
theorem At.lrow_take (E : El P e size by_ c) {ys : List α} {g off cap : Nat} (H : At w0 (lrow e size c (.slice (some ⟨g, off, none⟩) ys.length cap) ys :: L) w) {q : Nat} (hq : q ≤ ys.length) :
    At w0 (lrow e size c (.slice (some ⟨g, off, none⟩) (ys.take q).length cap) (ys.take q) :: L) w := by
  unfold lrow at H ⊢
  obtain ⟨cur, hb, hn, _⟩ := At.rows_blk H
  have h := At.rows_take H (q := q) (c := cap) hq (by omega) (Nat.le_refl _)
  rw [E.cl_take] at h
  rw [List.length_take, Nat.min_eq_left hq]
  exact h
end
end Go.Hg
