/-
  What the frame of a proof reads off arguments: numbers, bools, strings, slices of numbers, as facts on cells. No program in sight.
-/
import Derived.WalkKit
import Derived.ProofKit
import Derived.OpenShut
import Derived.ShutString
import Derived.ChangeOld
import Derived.Below
namespace Go.Hg
open Go.ChangeShapes Go.WideShapes Go.ChangeAt Go.RowKit
set_option linter.unusedVariables false
/-- A slice of numbers that came in: each element has its cell. -/
def IntRow (k : IntKind) (w : World) (a : Option Addr) (len : Nat) : Prop :=
  (len : Int) ≤ 9223372036854775807 ∧ ∃ b off, ∀ i : Nat, i < len → a = some ⟨b, off, none⟩ ∧ ∃ x, w.cell? ⟨b, off + i, none⟩ = some (.int k x) ∧ (Lit.int k x).wf = true

theorem intRow_of {k : IntKind} {w : World} {a : Option Addr} {len cap : Nat} {zs : List Int} (h : (a = none ∧ len = 0) ∨ ∃ x, a = some x ∧ len ≤ cap ∧ cap ≤ maxLen ∧ zs.length = cap ∧ (∀ i, i < zs.length → w.cell? (x.add i) = some (.int k (zs.getD i 0))) ∧ ∀ n ∈ zs, (Lit.int k n).wf = true) : IntRow k w a len := by
  rcases h with ⟨rfl, rfl⟩ | ⟨x, rfl, hl, hm, hz, hc, hw⟩
  · exact ⟨by omega, 0, 0, fun i hi => by omega⟩
  · refine ⟨by simp only [maxLen] at hm; omega, x.block, x.off, fun i hi => ?_⟩
    have h0 := hc 0 (by omega)
    obtain ⟨b, off, spot⟩ := x
    have hspot : spot = none := by simpa [Addr.add] using World.cell?_spot h0
    subst hspot
    have h1 := hc i (by omega)
    rw [Addr.add_lit] at h1
    refine ⟨rfl, zs.getD i 0, h1, hw _ ?_⟩
    rw [List.getD_eq_getElem?_getD, List.getElem?_eq_getElem (by omega)]
    exact List.getElem_mem (by omega)
end Go.Hg
