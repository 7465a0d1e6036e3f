/-
  Parts of an owned slice as what is appended. No program in sight.
-/
import Derived.Test.YtgdphamdbpkjdaaDoorStore
namespace Go.Hg
open Go.RowKit
set_option linter.unusedVariables false
section
variable {α : Type} {P : Program} {e : TypeId} {size by_ : Nat} {c : α → List Value} {w w0 : World} {L : List SP}
theorem lrow_src_cut (E : El P e size by_ c) (H : At w0 L w) (k : Nat) {g off cap : Nat} {ys : List α} (hk : L[k]? = some (lrow e size c (.slice (some ⟨g, off, none⟩) ys.length cap) ys)) (i n q : Nat) (h : i + n ≤ ys.length) :
    Src P size w (.slice (some ⟨g, off + i * size, none⟩) n q) n (cl c ((ys.drop i).take n)) := by
  have hl := E.cl_length ((ys.drop i).take n)
  rw [List.length_take, List.length_drop, Nat.min_eq_left (by omega)] at hl
  have hK := H.pull k hk
  unfold lrow at hK
  rcases At.rows_value hK with ⟨h0, _, _⟩ | ⟨g', off', cap', h0, _, _, hc⟩
  · cases h0
  · cases h0
    have hin : i * size + n * size ≤ ys.length * size := by rw [← Nat.add_mul]; exact Nat.mul_le_mul_right _ h
    refine Src.some hl (fun j u hj => ?_) (E.one_cl _)
    have hlt := (List.getElem?_eq_some_iff.1 hj).1
    rw [hl] at hlt
    rw [Addr.add_lit, Nat.add_assoc, hc (i * size + j) (by omega)]
    rw [← E.cl_take, ← E.cl_drop, List.getElem?_take, if_pos hlt, List.getElem?_drop] at hj
    exact hj
theorem lrow_src_take (E : El P e size by_ c) (H : At w0 L w) (k : Nat) {g off cap : Nat} {ys : List α} (hk : L[k]? = some (lrow e size c (.slice (some ⟨g, off, none⟩) ys.length cap) ys)) (n q : Nat) (h : n ≤ ys.length) :
    Src P size w (.slice (some ⟨g, off, none⟩) n q) (ys.take n).length (cl c (ys.take n)) := by
  have h2 := lrow_src_cut E H k hk 0 n q (by omega)
  rw [Nat.zero_mul, Nat.add_zero, List.drop_zero] at h2
  rw [List.length_take, Nat.min_eq_left h]
  exact h2
theorem lrow_src_drop (E : El P e size by_ c) (H : At w0 L w) (k : Nat) {g off cap : Nat} {ys : List α} (hk : L[k]? = some (lrow e size c (.slice (some ⟨g, off, none⟩) ys.length cap) ys)) (i q : Nat) (h : i ≤ ys.length) :
    Src P size w (.slice (some ⟨g, off + i * size, none⟩) (ys.length - i) q) (ys.drop i).length (cl c (ys.drop i)) := by
  have h2 := lrow_src_cut E H k hk i (ys.length - i) q (by omega)
  rw [List.take_of_length_le (by rw [List.length_drop]; exact Nat.le_refl _)] at h2
  rw [List.length_drop]
  exact h2
/-- No element: whatever the place. -/
theorem lrow_src_zero (a : Addr) (q : Nat) : Src P size w (.slice (some a) 0 q) ([] : List α).length (cl c []) :=
  Src.some (by simp [cl]) (fun j u hj => by simp [cl] at hj) (fun u h => by simp [cl] at h)
end
end Go.Hg
