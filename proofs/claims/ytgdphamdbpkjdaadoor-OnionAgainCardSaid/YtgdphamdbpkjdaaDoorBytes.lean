/-
  A few bytes in a new slice, and the string of them. No program in sight.
-/
import Derived.Test.YtgdphamdbpkjdaaDoorOps
import Derived.Laws.BytesArg
namespace Go.Hg
open Go.RowKit
set_option linter.unusedVariables false
theorem run_buildSlice_two {P : Program} {t e : TypeId} {i : TypeInfo} {z : Value} (ht : P.underlying t = some (.slice e)) (hi : P.info? e = some i) (hz : i.zero = some z) (h1 : i.size = 1) (u v : Value) (hu : u.oneCell' = true) (hv : v.oneCell' = true) (w : World) :
    (Instr.buildSlice t 2 #[(0, u), (1, v)]).run P w = .ok (.slice (some ⟨w.heap.size, 0, none⟩) 2 2) (w.alloc (.cells #[u, v] e)) := by
  have cu : u.cells = #[u] := by cases u <;> first | rfl | simp [Value.oneCell'] at hu
  have cv : v.cells = #[v] := by cases v <;> first | rfl | simp [Value.oneCell'] at hv
  simp only [Instr.buildSlice, Sem.run_bind, run_underlying ht, Result.andThen_ok, sizeOf, typeInfo, zeroValue]
  simp [hi, hz, h1, Sem.run_pure, Instr.fill, cu, cv, newRow]
  congr 2
  apply Array.ext'
  simp [show Array.range 2 = #[0, 1] from rfl]
section
variable {P : Program} {o : Oper} {a : Act} {w w0 : World} {L : List SP} {K : Act → World → Prop} {Q : Exit → Act → World → Prop}
/-- Two cells in a new slice. -/
theorem wp_buildSlice2_sl (t : TypeId) (x y : Operand) (ho : o.op = .buildSlice t 2 #[(0, x), (1, y)]) {e : TypeId} {z : Value} {by_ : Nat} {u v : Value} (ht : P.underlying t = some (.slice e)) (hi : (P.info? e).map (fun i => (i.zero, i.size, i.bytes)) = some (some z, 1, by_))
    (hx : a.eval x = u) (hy : a.eval y = v) (hu : u.oneCell' = true) (hv : v.oneCell' = true) (H : At w0 L w)
    (h : ∀ b w', At w0 (raw b #[u, v] e :: L) w' → Below w.heap.size w w' → K (a.put o.dst (.slice (some ⟨b, 0, none⟩) 2 2)) w') : OWp P o a w K Q := by
  obtain ⟨i, hi, hz, hs, _⟩ := info_of hi
  have h2 := h _ _ (H.alloc (.cells #[u, v] e)) ((Below.refl _ _).alloc (Nat.le_refl _) _)
  refine owp ?_
  unfold Oper.wp execOp
  simp only [ho, List.map_toArray, List.map_cons, List.map_nil, hx, hy, Sem.run_bind, run_buildSlice_two ht hi hz hs u v hu hv, Result.andThen_ok, Sem.run_pure]
  exact h2
theorem strOfNums_size (xs : List Int) : (strOfNums xs).size = xs.length := by simp [strOfNums, ByteArray.size]
/-- The string of the bytes of a slice whose block is known. -/
theorem wp_string_of (src dst : TypeId) (x : Operand) (ho : o.op = .convert src dst x) {e : TypeId} (hs : P.underlying src = some (.slice e)) (he : P.underlying e = some (.int .u8)) (hd : P.underlying dst = some .string)
    {b len cap : Nat} {xs : List Int} {cs : Array Value} {t : TypeId} {fr : Nat × Nat} (hx : a.eval x = .slice (some ⟨b, 0, none⟩) len cap) (hb : w.heap[b]? = some (.cells cs t fr)) (hl : xs.length = len) (hc : cs.toList = xs.map (Value.int .u8))
    (h : K (a.put o.dst (.string (strOfNums xs))) w) : OWp P o a w K Q := by
  have h2 := run_convert_bytes_arg (P := P) w src e hs he b 0 len cap xs hl (fun i hi => by
    rw [raw_cell hb, ← Array.getElem?_toList, hc, List.getElem?_map, Nat.zero_add, List.getElem?_eq_getElem (by omega)]
    simp [List.getD, List.getElem?_eq_getElem (show i < xs.length by omega)]) dst hd
  refine owp ?_
  unfold Oper.wp execOp
  simp only [ho, hx, Sem.run_bind, h2, Result.andThen_ok, Sem.run_pure]
  exact h
end
end Go.Hg
