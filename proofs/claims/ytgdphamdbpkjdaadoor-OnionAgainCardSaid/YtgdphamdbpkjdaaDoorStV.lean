/-
  Stores into blocks of bytes, of numbers; copying into a block; an element of an array by value. No program in sight.
-/
import Derived.Test.YtgdphamdbpkjdaaDoorShaS
import Derived.Laws.CopyRow
namespace Go.Hg
open Go.RowKit
set_option linter.unusedVariables false
theorem v32_put (ws : List (BitVec 32)) (i : Nat) (x : BitVec 32) : (v32 ws).toArray.setIfInBounds i (.int .u32 (iv x)) = (v32 (ws.set i x)).toArray := by
  apply Array.ext'
  rw [Array.toList_setIfInBounds]
  exact v32_set ws i x
theorem v8_put (ws : List (BitVec 8)) (i : Nat) (x : BitVec 8) : (v8 ws).toArray.setIfInBounds i (.int .u8 (iv x)) = (v8 (ws.set i x)).toArray := by
  apply Array.ext'
  rw [Array.toList_setIfInBounds]
  exact v8_set ws i x
section
variable {P : Program} {o : Oper} {a : Act} {w w0 : World} {L : List SP} {K : Act → World → Prop} {Q : Exit → Act → World → Prop}
theorem wp_st32 (ty : TypeId) (x y : Operand) (ho : o.op = .store ty x y) {b i : Nat} {v : BitVec 32} (hx : a.eval x = .pointer (some ⟨b, i, none⟩)) (hy : a.eval y = .int .u32 (iv v)) (hi : (P.info? ty).map (·.size) = some 1)
    (k : Nat) {ws : List (BitVec 32)} {t : TypeId} (H : At w0 L w) (hk : L[k]? = some (raw b (v32 ws).toArray t)) (hlt : i < ws.length)
    (h : ∀ w', At w0 (L.set k (raw b (v32 (ws.set i v)).toArray t)) w' → K (a.put o.dst undef) w') : OWp P o a w K Q := by
  refine wp_store_sl ty x y ho hx hy hi rfl k H hk (by simp [v32_length, hlt]) fun w' H' => ?_
  rw [v32_put] at H'
  exact h w' H'
theorem wp_st8 (ty : TypeId) (x y : Operand) (ho : o.op = .store ty x y) {b i : Nat} {v : BitVec 8} (hx : a.eval x = .pointer (some ⟨b, i, none⟩)) (hy : a.eval y = .int .u8 (iv v)) (hi : (P.info? ty).map (·.size) = some 1)
    (k : Nat) {ws : List (BitVec 8)} {t : TypeId} (H : At w0 L w) (hk : L[k]? = some (raw b (v8 ws).toArray t)) (hlt : i < ws.length)
    (h : ∀ w', At w0 (L.set k (raw b (v8 (ws.set i v)).toArray t)) w' → K (a.put o.dst undef) w') : OWp P o a w K Q := by
  refine wp_store_sl ty x y ho hx hy hi rfl k H hk (by simp [v8_length, hlt]) fun w' H' => ?_
  rw [v8_put] at H'
  exact h w' H'
/-- What lies at an address is copied into a block. -/
theorem wp_copy_in (d s : Operand) (dT sT : TypeId) (ho : o.op = .call { callee := .builtin .copy, args := #[d, s], argTypes := #[dT, sT] }) {e : TypeId} (hu : P.underlying dT = some (.slice e)) (he : (P.info? e).map (·.size) = some 1)
    {g off dLen dCap : Nat} {src : Addr} {sLen sCap : Nat} (hd : a.eval d = .slice (some ⟨g, off, none⟩) dLen dCap) (hs : a.eval s = .slice (some src) sLen sCap)
    (k : Nat) {cur : List Value} {t : TypeId} (H : At w0 L w) (hk : L[k]? = some (raw g cur.toArray t)) {cs : List Value} (hn : cs.length = min sLen dLen) (hsrc : ∀ j v, cs[j]? = some v → w.cell? (src.add j) = some v) (hfit : off + cs.length ≤ cur.length) (h1 : ∀ v ∈ cs, v.oneCell' = true)
    (h : ∀ w', At w0 (L.set k (raw g (cur.take off ++ cs ++ cur.drop (off + cs.length)).toArray t)) w' → K (a.put o.dst (goInt cs.length)) w') : OWp P o a w K Q := by
  have hb := H.heap k hk
  have hr := run_copy_row (P := P) w dT sT o.type e g off dLen dCap src sLen sCap cur.toArray t cs hu he hb hn hsrc (by simpa using hfit) h1
  have H' := (H.pull k hk).setRow (cs' := (cur.take off ++ cs ++ cur.drop (off + cs.length)).toArray)
  have h2 := h _ (H'.perm (by
    obtain ⟨hl, _⟩ := List.getElem?_eq_some_iff.1 hk
    have h3 := perm_erase (L.set k (raw g (cur.take off ++ cs ++ cur.drop (off + cs.length)).toArray t)) k (raw g (cur.take off ++ cs ++ cur.drop (off + cs.length)).toArray t) (by simp [hl])
    rwa [List.eraseIdx_set_eq] at h3))
  refine owp ?_
  unfold Oper.wp execOp
  simp only [ho, resolve, invoke, BigFrame.builtin_copy, Sem.run_bind, Sem.run_pure, Result.andThen_ok, List.map_toArray, List.map_cons, List.map_nil, hd, hs, hr]
  exact h2
end
section
variable {P : Program} {o : Oper} {a : Act}
theorem run_index_agg {t e : TypeId} {n i : Nat} {cs : List Value} {v : Value} (ht : P.underlying t = some (.array n e)) (hag : ∀ w, (isAgg e).run P w = .ok false w) (hs : ∀ w, (sizeOf e).run P w = .ok 1 w) (hi : i < n) (hv : cs[i]? = some v) (w : World) :
    (Instr.index t (.agg cs.toArray) (.int .i64 (i : Int))).run P w = .ok v w := by
  have h1 : (0 : Int) ≤ (i : Int) ∧ (i : Int) < (n : Int) := by omega
  simp [Instr.index, asIntOf, Sem.run_bind, run_underlying ht, h1, part, hag, hs, hv, hi]
end
end Go.Hg
