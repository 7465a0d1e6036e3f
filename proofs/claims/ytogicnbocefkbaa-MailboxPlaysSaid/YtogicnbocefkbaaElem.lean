/-
  An element of an owned slice is written over.
-/
import Derived.Test.YtogicnbocefkbaaBodies
namespace Go.Hg
open Go.RowKit
theorem At.rows_block {w0 w : World} {L : List SP} {e : TypeId} {size n g off cap : Nat} {xs : List Value} (H : At w0 (rows e size (.slice (some ⟨g, off, none⟩) n cap) n xs :: L) w) :
    ∃ cur, w.heap[g]? = some (.cells cur e (0, 0)) ∧ n ≤ cap ∧ cap ≤ maxLen ∧ off + cap * size ≤ cur.size ∧ (cur.toList.drop off).take (n * size) = xs := by
  obtain ⟨hb, h, ⟨h1, h2, p, q, d, l1, l2⟩, s, u⟩ := H
  unfold rows at p
  rcases p.2 with ⟨hv, _⟩ | ⟨g', off', cap', cur, hv, hg, h1, h2, h3, h4⟩
  · cases hv
  · cases hv
    exact ⟨cur, s g _ (l1 g _ hg), h1, h2, h3, h4⟩
theorem splice (A B : List Value) (off p m : Nat) (h1 : p + B.length ≤ m) (h2 : off + m ≤ A.length) :
    ((A.take (off + p) ++ B ++ A.drop (off + p + B.length)).drop off).take m = ((A.drop off).take m).take p ++ B ++ ((A.drop off).take m).drop (p + B.length) := by
  apply List.ext_getElem?
  intro j
  simp only [List.getElem?_append, List.getElem?_take, List.getElem?_drop, List.length_append, List.length_take, List.length_drop]
  repeat' split
  all_goals first | rfl | omega | (congr 1; omega) | (exfalso; omega) | skip
  all_goals first | (symm; apply List.getElem?_eq_none; omega) | (apply List.getElem?_eq_none; omega) | skip
end Go.Hg
namespace Go.Proofs.Ytogicnbocefkbaa
open Go.RowKit Go.Hg
theorem bls_set {ys : List Body} (hf : Full ys) {i : Nat} (hi : i < ys.length) (z : Body) (hz : z.length = 256) : bls (ys.set i z) = (bls ys).take (i * 256) ++ bl z ++ (bls ys).drop (i * 256 + (bl z).length) := by
  rw [List.set_eq_take_append_cons_drop, if_pos hi, bl_length, hz, show i * 256 + 256 = (i + 1) * 256 by omega, bls_take hf, bls_drop hf]
  show List.flatMap bl _ = _
  rw [List.flatMap_append, List.flatMap_cons, ← List.append_assoc]
  rfl
theorem Full.set {ys : List Body} (hf : Full ys) (i : Nat) {z : Body} (hz : z.length = 256) : Full (ys.set i z) := fun x hx => by
  rcases List.mem_or_eq_of_mem_set hx with h | rfl
  · exact hf x h
  · exact hz
set_option maxRecDepth 10000 in
theorem wp_store_elem {o : Oper} {a : Act} {w w0 : World} {L : List SP} {K : Act → World → Prop} {Q : Exit → Act → World → Prop} (x y : Operand) (ho : o.op = .store 34 x y) {g off cap i : Nat} {ys : List Body} {z : Body}
    (hx : a.eval x = .pointer (some ⟨g, off + i * 256, none⟩)) (hy : a.eval y = .agg (bv z)) (hz : z.length = 256) (H : At w0 (rows 34 256 (.slice (some ⟨g, off, none⟩) ys.length cap) ys.length (bls ys) :: L) w) (hf : Full ys) (hlt : i < ys.length)
    (h : ∀ w', At w0 (rows 34 256 (.slice (some ⟨g, off, none⟩) (ys.set i z).length cap) (ys.set i z).length (bls (ys.set i z)) :: L) w' → K (a.put o.dst undef) w') : OWp Try.prog o a w K Q := by
  obtain ⟨cur, hb, hn, hm, hs, ht⟩ := H.rows_block
  have hl := bl_length z
  have hls := bls_length hf
  have hcap : ys.length * 256 ≤ cap * 256 := Nat.mul_le_mul_right _ hn
  have hst := run_storeCells_at Try.prog g (off + i * 256) 34 (bl z) 0 cur w hb (by simp; omega) (one_bl z)
  simp only [Nat.add_zero] at hst
  have H2 := H.rows_upd (n' := (ys.set i z).length) (cur' := (cur.toList.take (off + i * 256) ++ bl z ++ cur.toList.drop (off + i * 256 + (bl z).length)).toArray) (xs' := bls (ys.set i z)) hb (by simpa using hn) hm
    (by simp; omega) (bls_length (hf.set i hz)) (by
      simp only [List.length_set]
      rw [splice cur.toList (bl z) off (i * 256) (ys.length * 256) (by omega) (by simp; omega), ht, bls_set hf hlt z hz])
  have h3 := h _ H2
  obtain ⟨i', hi, _, hsz, _⟩ := info_of info_body
  refine owp ?_
  unfold Oper.wp execOp
  simp only [ho, Instr.storeAt, hx, hy, Instr.sureAddr, storeVar, sizeOf, typeInfo, Sem.run_bind, Sem.run_pure, Result.andThen_ok]
  simp only [Sem.run, program, hi, Sem.run_pure, Result.andThen_ok, Value.cells, hsz, bv_size, hz, ne_eq, not_true_eq_false, if_false]
  simp [hst, Oper.upon, bv]
  simpa [bv] using h3
end Go.Proofs.Ytogicnbocefkbaa
