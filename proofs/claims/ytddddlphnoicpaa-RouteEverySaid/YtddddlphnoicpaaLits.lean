/-
  A slice of numbers that is written out: it is owned, and holds them. No program in sight.
-/
import Derived.Test.YtddddlphnoicpaaSees
import Derived.Great.BuildSlice
namespace Go.Hg
open Go.RowKit
set_option linter.unusedVariables false
section
variable {P : Program} {e : TypeId} {by_ : Nat} {k : IntKind} {w w0 : World} {L : List SP}
variable {o : Oper} {a : Act} {K : Act → World → Prop} {Q : Exit → Act → World → Prop}
theorem wp_lits (E : El P e 1 by_ (ic k)) (t : TypeId) (ht : P.underlying t = some (.slice e)) (len : Nat) (parts : Array (Nat × Operand)) (ho : o.op = .buildSlice t len parts) (zs : List Int) (hlen : len = zs.length) (hpos : 0 < len) (hsmall : len ≤ 2 ^ 24)
    (hparts : parts.toList = (zs.zipIdx 0).map fun x => (x.2, Operand.const (Value.int k x.1))) (H : At w0 L w)
    (h : ∀ b w', At w0 (lrow e 1 (ic k) (.slice (some ⟨b, 0, none⟩) zs.length zs.length) zs :: L) w' → K (a.put o.dst (.slice (some ⟨b, 0, none⟩) len len)) w') : OWp P o a w K Q := by
  obtain ⟨z, hi, hzs⟩ := E.info
  obtain ⟨i, hi2, hz, hsz, hby⟩ := info_of hi
  refine owp (wp_buildSlice t e len parts ho (zs.map (Value.int k)).toArray i z ht hi2 hz (by rw [hsz]; omega) (by rw [hsz]; omega) ?_ ?_)
  · rw [parts_eval a parts k zs hparts, hsz]
    exact Great.fill_flat _ _ (fun v hv => by obtain ⟨n, _, rfl⟩ := List.mem_map.1 hv; rfl) (by simp [hlen])
  · refine h _ _ ?_
    have H2 := At.rows_new (H.alloc (.cells (zs.map (Value.int k)).toArray e)) (n := zs.length) (cap := zs.length) (size := 1) (xs := zs.map (Value.int k)) (Nat.le_refl _) (by simp only [maxLen]; omega) (by simp) (by simp; exact List.take_of_length_le (by simp))
    unfold lrow
    rw [cl_ic]
    exact H2
end
end Go.Hg
