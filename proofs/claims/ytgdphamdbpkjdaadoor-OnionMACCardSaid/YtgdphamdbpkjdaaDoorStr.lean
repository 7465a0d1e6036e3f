/-
  Strings as lists of bytes: sums, parts, letters, equality, conversions, as rules. No program in sight.
-/
import Derived.Test.YtgdphamdbpkjdaaDoorHgC
import Derived.Laws.Strings
import Derived.Laws.Slices
namespace Go.Hg
open Go.RowKit
set_option linter.unusedVariables false
/-- The string of bytes. -/
def sB (l : List (BitVec 8)) : ByteArray := ⟨(l.map UInt8.ofBitVec).toArray⟩
theorem labB_sB (l : List (BitVec 8)) : labB (sB l) = l := by
  unfold labB sB
  simp [Function.comp_def]
theorem sB_labB (s : ByteArray) : sB (labB s) = s := by
  unfold labB sB
  cases s with
  | mk d => simp [Function.comp_def]
theorem sB_size (l : List (BitVec 8)) : (sB l).size = l.length := by
  show (sB l).data.size = _
  simp [sB]
theorem sB_append (a b : List (BitVec 8)) : sB a ++ sB b = sB (a ++ b) := by
  apply ByteArray.ext
  simp [sB, ByteArray.data_append]
theorem sB_inj {a b : List (BitVec 8)} (h : sB a = sB b) : a = b := by rw [← labB_sB a, h, labB_sB]
theorem sB_nil : (⟨#[]⟩ : ByteArray) = sB [] := rfl
theorem sB_extract (l : List (BitVec 8)) (i j : Nat) (hj : j ≤ l.length) : (sB l).extract i j = sB ((l.take j).drop i) := by
  apply ByteArray.ext
  rw [ByteArray.data_extract]
  apply Array.ext'
  simp [sB, List.extract_eq_take_drop, List.map_take, List.map_drop, List.drop_take]
section
variable {P : Program} {w w0 : World} {L : List SP} {o : Oper} {a : Act} {K : Act → World → Prop} {Q : Exit → Act → World → Prop}
variable {ρ : Operand → Value}
/-- Two strings, one behind the other. -/
theorem exec_sadd {t yt : TypeId} {x y : Operand} (ho : o.op = .binOp .add t x y yt) {u v : List (BitVec 8)} (hx : ρ x = .string (sB u)) (hy : ρ y = .string (sB v)) (hl : u.length + v.length ≤ 1000000000) (w : World) : (execOp ρ o).run P w = .ok (.value (.string (sB (u ++ v)))) w := by
  have h : ((sB u).size : Int) + ((sB v).size : Int) ≤ 9223372036854775807 := by
    rw [sB_size, sB_size]
    omega
  have hm : IntKind.i64.max = 9223372036854775807 := rfl
  unfold execOp
  simp only [ho, hx, hy, Sem.run_bind, eqGuard, Go.binOp, Op.stringOp]
  simp [h, hm, sB_append]
theorem wp_sadd (t yt : TypeId) (x y : Operand) (ho : o.op = .binOp .add t x y yt) {u v : List (BitVec 8)} (hx : a.eval x = .string (sB u)) (hy : a.eval y = .string (sB v)) (hl : u.length + v.length ≤ 1000000000) (h : K (a.put o.dst (.string (sB (u ++ v)))) w) : OWp P o a w K Q :=
  wp_run (exec_sadd ho hx hy hl w) h
theorem exec_seql {t yt : TypeId} {x y : Operand} (ho : o.op = .binOp .eql t x y yt) {u v : List (BitVec 8)} (hx : ρ x = .string (sB u)) (hy : ρ y = .string (sB v)) (w : World) : (execOp ρ o).run P w = .ok (.value (.bool (decide (u = v)))) w := by
  have e : ((sB u).toList == (sB v).toList) = decide (u = v) := by
    rw [Bool.eq_iff_iff, beq_iff_eq, decide_eq_true_iff]
    exact ⟨fun h => sB_inj (by
      have h2 : (sB u).data.toList = (sB v).data.toList := by rwa [ByteArray.toList_eq, ByteArray.toList_eq] at h
      exact ByteArray.ext (Array.ext' h2)), fun h => by rw [h]⟩
  unfold execOp
  simp only [ho, hx, hy, Sem.run_bind, eqGuard, Go.binOp, Op.stringOp]
  simp [e]
theorem exec_sneq {t yt : TypeId} {x y : Operand} (ho : o.op = .binOp .neq t x y yt) {u v : List (BitVec 8)} (hx : ρ x = .string (sB u)) (hy : ρ y = .string (sB v)) (w : World) : (execOp ρ o).run P w = .ok (.value (.bool (!decide (u = v)))) w := by
  have e : ((sB u).toList == (sB v).toList) = decide (u = v) := by
    rw [Bool.eq_iff_iff, beq_iff_eq, decide_eq_true_iff]
    exact ⟨fun h => sB_inj (by
      have h2 : (sB u).data.toList = (sB v).data.toList := by rwa [ByteArray.toList_eq, ByteArray.toList_eq] at h
      exact ByteArray.ext (Array.ext' h2)), fun h => by rw [h]⟩
  unfold execOp
  simp only [ho, hx, hy, Sem.run_bind, eqGuard, Go.binOp, Op.stringOp]
  simp [e]
/-- A letter. -/
theorem exec_sidx {t : TypeId} {x i : Operand} (ho : o.op = .index t x i) (ht : P.underlying t = some .string) {l : List (BitVec 8)} {k : IntKind} {n : Nat} {b : BitVec 8} (hx : ρ x = .string (sB l)) (hi : ρ i = .int k (n : Int)) (hn : l[n]? = some b) (w : World) : (execOp ρ o).run P w = .ok (.value (.int .u8 (iv b))) w := by
  have hlt := (List.getElem?_eq_some_iff.1 hn).1
  have hb := (List.getElem?_eq_some_iff.1 hn).2
  have h := run_index_string (P := P) (w := w) t (sB l) k (n : Int) ht
  rw [dif_pos (by rw [sB_size]; omega)] at h
  have e : ((sB l)[(n : Int).toNat]'(by rw [sB_size]; omega)).toNat = b.toNat := by
    show ((sB l).data[n]'(by show n < (sB l).size; rw [sB_size]; omega)).toNat = b.toNat
    simp [sB, hb]
  unfold execOp
  simp only [ho, hx, hi, Sem.run_bind, h, Result.andThen_ok, Sem.run_pure]
  rw [e]
  rfl
/-- A part. -/
theorem run_spart {t : TypeId} (ht : P.underlying t = some .string) {l : List (BitVec 8)} {i j : Nat} (h1 : i ≤ j) (h2 : j ≤ l.length) (w : World) : (Instr.slice t (.string (sB l)) (some (.int .i64 (i : Int))) (some (.int .i64 (j : Int))) none).run P w = .ok (.string (sB ((l.take j).drop i))) w := by
  have h := run_slice_string (P := P) w t (sB l) .i64 .i64 (i : Int) (j : Int) ht (by omega) (by omega) (by rw [sB_size]; omega)
  rw [h]
  simp [sB_extract _ _ _ h2]
theorem bl_v8 (bs : List (BitVec 8)) : bl (bs.map UInt8.ofBitVec) = v8 bs := by
  unfold bl v8
  rw [List.map_map]
  rfl
/-- Bytes that are read, as a string. -/
theorem exec_str_of {src dst e : TypeId} {x : Operand} (ho : o.op = .convert src dst x) (hs : P.underlying src = some (.slice e)) (he : P.underlying e = some (.int .u8)) (hd : P.underlying dst = some .string)
    {g off n cap : Nat} {bs : List (BitVec 8)} (hx : ρ x = .slice (some ⟨g, off, none⟩) n cap) (H : At w0 L w) (hv : SeeB w0 L (.slice (some ⟨g, off, none⟩) n cap) bs) : (execOp ρ o).run P w = .ok (.value (.string (sB bs))) w := by
  obtain ⟨hn, _, _, _, hr⟩ := hv.cells H
  have h := exec_string_of (ρ := ρ) (w := w) ho hs he hd (l := bs.map UInt8.ofBitVec) hx (by rw [List.length_map]; exact hn.symm) (by rw [bl_v8, ← cl_c8]; exact hr _ _ rfl)
  rw [h]
  rfl
end
end Go.Hg
