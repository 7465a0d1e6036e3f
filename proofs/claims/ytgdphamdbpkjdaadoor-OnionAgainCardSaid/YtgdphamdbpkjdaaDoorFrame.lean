/-
  What the frame of a proof reads off arguments: numbers, bools, strings, slices of numbers, as facts on cells. No program in sight.
-/
import Derived.WalkKit
import Derived.ProofKit
import Derived.OpenShut
import Derived.ShutString
import Derived.ChangeOld
import Derived.Below
import Derived.Deep.Slices
namespace Go.Hg
open Go.ChangeShapes Go.WideShapes Go.ChangeAt Go.RowKit
set_option linter.unusedVariables false
/-- A slice of numbers that came in: each element has its cell. -/
def IntRow (k : IntKind) (w : World) (a : Option Addr) (len : Nat) : Prop :=
  (len : Int) ≤ 9223372036854775807 ∧ ∃ b off, ∀ i : Nat, i < len → a = some ⟨b, off, none⟩ ∧ ∃ x, w.cell? ⟨b, off + i, none⟩ = some (.int k x) ∧ (Lit.int k x).wf = true

theorem intRow_of {k : IntKind} {w : World} {a : Option Addr} {len cap : Nat} {zs : List Int} (h : (a = none ∧ len = 0) ∨ ∃ x, a = some x ∧ len ≤ cap ∧ cap ≤ maxLen ∧ zs.length = cap ∧ (∀ i, i < zs.length → w.cell? (x.add i) = some (.int k (zs.getD i 0))) ∧ ∀ n ∈ zs, (Lit.int k n).wf = true) : IntRow k w a len := by
  rcases h with ⟨rfl, rfl⟩ | ⟨x, rfl, hl, hm, hz, hc, hw⟩
  · exact ⟨by omega, 0, 0, fun i hi => by omega⟩
  · refine ⟨by simp only [maxLen] at hm; omega, x.block, x.off, fun i hi => ?_⟩
    have h0 := hc 0 (by omega)
    obtain ⟨b, off, spot⟩ := x
    have hspot : spot = none := by simpa [Addr.add] using World.cell?_spot h0
    subst hspot
    have h1 := hc i (by omega)
    rw [Addr.add_lit] at h1
    refine ⟨rfl, zs.getD i 0, h1, hw _ ?_⟩
    rw [List.getD_eq_getElem?_getD, List.getElem?_eq_getElem (by omega)]
    exact List.getElem_mem (by omega)

/-- Its numbers, by place. -/
theorem intRow_fn {k : IntKind} {w : World} {a : Option Addr} {len : Nat} (h : IntRow k w a len) :
    ∃ (b off : Nat) (v : Nat → Int), (len : Int) ≤ 9223372036854775807 ∧ ∀ i : Nat, i < len → a = some ⟨b, off, none⟩ ∧ w.cell? ⟨b, off + i, none⟩ = some (.int k (v i)) ∧ (Lit.int k (v i)).wf = true := by
  obtain ⟨h1, b, off, h2⟩ := h
  refine ⟨b, off, fun i => if hi : i < len then Classical.choose (h2 i hi).2 else 0, h1, fun i hi => ?_⟩
  have h3 := Classical.choose_spec (h2 i hi).2
  simp only [dif_pos hi]
  exact ⟨(h2 i hi).1, h3⟩

section
variable {H : Type} {enc : TypeId × Value → H} {P : Program} {w : World} {base : Nat} {spare : Nat → Bool} {held : Bool}
/-- A slice that came in, whatever its elements: each element has its cells, and they read. -/
theorem slice_row {t e : TypeId} {a : Option Addr} {len cap : Nat} {d : DataW H} {p : List MemPlace} (ht : P.underlying t = some (.slice e)) (hc : 0 < P.cellsOf e)
    (h : DataW.Trod enc P w base spare held t (.slice a len cap) d p) : (len : Int) ≤ 9223372036854775807 ∧ ∃ b off, ∀ i : Nat, i < len → a = some ⟨b, off, none⟩ ∧
      ∃ (cs : List Value) (n : Nat) (x : DataW H × List MemPlace), cs.length = P.cellsOf e ∧ (∀ j, j < P.cellsOf e → w.cell? ⟨b, off + i * P.cellsOf e + j, none⟩ = cs[j]?) ∧ DataW.trod enc P w base spare held n e cs = some x := by
  obtain ⟨fuel, hf⟩ := h
  rcases Go.Deep.open_slice ht hf with ⟨hcs, _⟩ | ⟨a', len', cap', m, n, D, Pl, hcs, _, hl, hm, hmm, _, hx⟩
  · simp [Value.cells] at hcs
    obtain ⟨rfl, rfl, rfl⟩ := hcs
    exact ⟨by omega, 0, 0, fun i hi => by omega⟩
  · simp [Value.cells] at hcs
    obtain ⟨rfl, rfl, rfl⟩ := hcs
    have hlm : len ≤ m := by rw [hmm]; split <;> omega
    refine ⟨by simp only [maxLen] at hm; omega, a'.block, a'.off, fun i hi => ?_⟩
    obtain ⟨cs, h1, h2⟩ := hx i (by omega)
    obtain ⟨_, h3, h4⟩ := World.cells?_some h1
    obtain ⟨b, off, spot⟩ := a'
    have hspot : spot = none := by
      obtain ⟨cs0, g1, _⟩ := hx 0 (by omega)
      obtain ⟨_, g3, g4⟩ := World.cells?_some g1
      have g5 := g4 0 hc
      have g6 : cs0[0]? = some cs0[0] := List.getElem?_eq_getElem (by omega)
      rw [g6] at g5
      simpa [Addr.add] using World.cell?_spot g5
    subst hspot
    refine ⟨rfl, cs, n, _, h3, fun j hj => ?_, h2⟩
    have := h4 j hj
    rw [Addr.add_lit, Addr.add_lit] at this
    exact this
end
end Go.Hg
