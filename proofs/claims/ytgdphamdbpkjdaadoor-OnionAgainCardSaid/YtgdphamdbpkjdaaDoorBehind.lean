/-
  What is done behind the end of an owned slice, within its room: append that stays where it is; clear. No program in sight.
-/
import Derived.Test.YtgdphamdbpkjdaaDoorCut
namespace Go.Hg
open Go.RowKit
set_option linter.unusedVariables false
section
variable {α : Type} {P : Program} {e : TypeId} {size by_ : Nat} {c : α → List Value} {w w0 : World} {L : List SP}
variable {o : Oper} {a : Act} {K : Act → World → Prop} {Q : Exit → Act → World → Prop}
/-- There is room: the slice stays where it is. -/
theorem wp_lapp_stay (E : El P e size by_ c) (t t2 : TypeId) (ht : P.underlying t = some (.slice e)) (ht2 : SrcType P t2) (s xo : Operand) (ho : o.op = .call { callee := .builtin .append, args := #[s, xo], argTypes := #[t, t2] }) {g off cap n m : Nat} {xs ys : List α}
    (hs : a.eval s = .slice (some ⟨g, off, none⟩) n cap) (hn0 : xs.length = n) (hm0 : (xs ++ ys).length = m) (H : At w0 (lrow e size c (.slice (some ⟨g, off, none⟩) xs.length cap) xs :: L) w) {x : Value} (hxo : a.eval xo = x) (hx : Src P size w x ys.length (cl c ys)) (hroom : xs.length + ys.length ≤ cap)
    (h : ∀ w', At w0 (lrow e size c (.slice (some ⟨g, off, none⟩) (xs ++ ys).length cap) (xs ++ ys) :: L) w' → K (a.put o.dst (.slice (some ⟨g, off, none⟩) m cap)) w') : OWp P o a w K Q := by
  subst hn0
  subst hm0
  obtain ⟨z, hi, hzs⟩ := E.info
  obtain ⟨i, hi2, hz, hsz, hby⟩ := info_of hi
  unfold lrow at H h
  obtain ⟨cur, hb, hn, hm, hcs, htk⟩ := At.rows_blk H
  have hcl : cur.toList.length = cur.size := rfl
  subst hsz
  have hxl := E.cl_length xs
  have hyl := E.cl_length ys
  have hfit : off + xs.length * i.size + (cl c ys).length ≤ cur.size := by
    have := Nat.mul_le_mul_right i.size hroom
    rw [Nat.add_mul] at this
    omega
  have hst := run_storeCells_at P g (off + xs.length * i.size) e (cl c ys) 0 cur w hb (by omega) (E.one_cl ys)
  simp only [Nat.add_zero] at hst
  have hadd : ∀ k, (⟨g, off, none⟩ : Addr).add k = ⟨g, off + k, none⟩ := fun k => Addr.add_lit g off k
  have hr := append_stay t t2 o.type e i ht ht2 hi2 hx hroom (base := some ⟨g, off, none⟩) (fun a ha => by cases ha; rw [hadd]; exact hst) (fun e => nomatch e)
  have hlen : (cl c (xs ++ ys)).length = (xs.length + ys.length) * i.size := by rw [E.cl_length, List.length_append]
  have H2 := At.rows_upd H (n' := xs.length + ys.length) (xs' := cl c (xs ++ ys)) hb hroom hm (cur' := (cur.toList.take (off + xs.length * i.size) ++ cl c ys ++ cur.toList.drop (off + xs.length * i.size + (cl c ys).length)).toArray)
    (by simp only [List.size_toArray, List.length_append, List.length_take, List.length_drop, Array.length_toList]; omega) hlen (by
      have e1 : (List.take (off + xs.length * i.size) cur.toList).drop off = cl c xs := by
        rw [← htk, List.take_drop]
      rw [List.append_assoc, List.drop_append_of_le_length (by rw [List.length_take]; omega), e1, ← List.append_assoc, ← cl_append, ← hlen]
      exact List.take_left)
  rw [List.length_append] at h
  have h3 := h _ H2
  refine owp ?_
  unfold Oper.wp execOp
  simp only [ho, resolve, invoke, builtin, Sem.run_bind, Sem.run_pure, Result.andThen_ok, List.map_toArray, List.map_cons, List.map_nil, hs, hxo, hr]
  exact h3
theorem one_zero {z : Array Value} (hz : ∀ u ∈ z.toList, u.oneCell' = true) (k : Nat) (h0 : z.size ≠ 0) : ∀ u ∈ (Builtin.zeroCells z k).toList, u.oneCell' = true := by
  intro u hu
  unfold Builtin.zeroCells at hu
  simp at hu
  obtain ⟨i, hi, rfl⟩ := hu
  have hlt : i % z.size < z.size := Nat.mod_lt _ (by omega)
  simp [hlt]
  exact hz _ (by simp)
/-- clear of what lies behind the end of an owned slice. -/
theorem wp_lclear_behind (E : El P e size by_ c) (t : TypeId) (ht : P.underlying t = some (.slice e)) (x : Operand) (ho : o.op = .call { callee := .builtin .clear, args := #[x], argTypes := #[t] }) {g off cap k q p : Nat} {ys : List α}
    (hx : a.eval x = .slice (some ⟨g, p, none⟩) k q) (hp : p = off + ys.length * size) {zv : Value} (hz : ∀ w, (zeroValue e).run P w = .ok zv w) (hzs : zv.cells.size = size) (hz1 : ∀ u ∈ zv.cells.toList, u.oneCell' = true) (h0 : size ≠ 0) (H : At w0 (lrow e size c (.slice (some ⟨g, off, none⟩) ys.length cap) ys :: L) w) (hk : ys.length + k ≤ cap)
    (h : ∀ w', At w0 (lrow e size c (.slice (some ⟨g, off, none⟩) ys.length cap) ys :: L) w' → K (a.put o.dst (.tuple #[])) w') : OWp P o a w K Q := by
  subst hp
  unfold lrow at H h
  obtain ⟨cur, hb, hn, hm, hcs, htk⟩ := At.rows_blk H
  have hcl : cur.toList.length = cur.size := rfl
  have hyl := E.cl_length ys
  have hzl : (Builtin.zeroCells zv.cells k).toList.length = k * size := by rw [Array.length_toList, size_zeroCells, hzs]
  have hfit : off + ys.length * size + (Builtin.zeroCells zv.cells k).toList.length ≤ cur.size := by
    have := Nat.mul_le_mul_right size hk
    rw [Nat.add_mul] at this
    omega
  have hst := run_storeCells_at P g (off + ys.length * size) e (Builtin.zeroCells zv.cells k).toList 0 cur w hb (by omega) (one_zero hz1 k (by omega))
  simp only [Nat.add_zero] at hst
  have H2 := At.rows_upd H (n' := ys.length) (xs' := cl c ys) hb hn hm (cur' := (cur.toList.take (off + ys.length * size) ++ (Builtin.zeroCells zv.cells k).toList ++ cur.toList.drop (off + ys.length * size + (Builtin.zeroCells zv.cells k).toList.length)).toArray)
    (by simp only [List.size_toArray, List.length_append, List.length_take, List.length_drop]; omega) hyl (by
      have e1 : (List.take (off + ys.length * size) cur.toList).drop off = cl c ys := by
        rw [← htk, List.take_drop]
      have e2 : (cl c ys).length = ys.length * size := hyl
      show List.take _ (List.drop off (_ ++ _ ++ _)) = _
      rw [List.append_assoc, List.drop_append_of_le_length (by rw [List.length_take]; omega), e1, ← e2]
      exact List.take_left)
  have h3 := h _ H2
  refine owp ?_
  unfold Oper.wp execOp
  simp only [ho, resolve, invoke, builtin, Sem.run_bind, Sem.run_pure, Result.andThen_ok, List.map_toArray, List.map_cons, List.map_nil, hx]
  cases k with
  | zero =>
    have hw : w.setRow g (cur.toList.take (off + ys.length * size) ++ (Builtin.zeroCells zv.cells 0).toList ++ cur.toList.drop (off + ys.length * size + (Builtin.zeroCells zv.cells 0).toList.length)).toArray = w := by
      have h5 : (Builtin.zeroCells zv.cells 0).toList = [] := List.eq_nil_of_length_eq_zero (by rw [hzl]; simp)
      rw [h5]
      simp only [List.append_nil, List.length_nil, Nat.add_zero, List.take_append_drop, Array.toArray_toList]
      exact setRow_self w g cur e (0, 0) hb
    rw [hw] at h3
    simp [Builtin.clear_, run_underlying ht, Oper.upon]
    exact h3
  | succ k =>
    simp [Builtin.clear_, run_underlying ht, hz, hst, Oper.upon]
    simpa using h3
/-- clear of nothing. -/
theorem wp_clear_none (t : TypeId) (ht : P.underlying t = some (.slice e)) (x : Operand) (ho : o.op = .call { callee := .builtin .clear, args := #[x], argTypes := #[t] }) {b : Option Addr} {q : Nat} (hx : a.eval x = .slice b 0 q)
    (h : K (a.put o.dst (.tuple #[])) w) : OWp P o a w K Q := by
  refine owp ?_
  unfold Oper.wp execOp
  simp only [ho, resolve, invoke, builtin, Sem.run_bind, Sem.run_pure, Result.andThen_ok, List.map_toArray, List.map_cons, List.map_nil, hx]
  cases b <;> simp [Builtin.clear_, run_underlying ht, Oper.upon] <;> exact h
end
end Go.Hg
