/-
  A slice of steps that came in: each step's cells. 
-/
import Derived.Test.YtogicnbocefkbaaRows
import Derived.Test.YtogicnbocefkbaaOps
import Derived.Test.YtogicnbocefkbaaFrame
namespace Go.Proofs.Ytogicnbocefkbaa
open Go.ChangeShapes Go.WideShapes Go.ChangeAt Go.RowKit Go.Hg
open Go.ChangeMaps (open_string shut_string)
set_option linter.unusedSimpArgs false
set_option linter.unusedVariables false
/-- A step's cells. -/
def stepC (k bx : Int) (s : ByteArray) (n : Int) : List Value := [.int .i64 k, .int .u16 bx, .string s, .int .i64 n]
theorem info_Step : (Try.prog.info? 32).map (fun i => (i.zero, i.size, i.bytes)) = some (some (.agg #[.int .i64 0, .int .u16 0, .string ByteArray.empty, .int .i64 0]), 4, 40) := by kernel_rfl
def StepRow (w : World) (a : Option Addr) (len : Nat) : Prop :=
  (len : Int) ≤ 9223372036854775807 ∧ ∃ b off, ∀ i : Nat, i < len → a = some ⟨b, off, none⟩ ∧ b < w.heap.size ∧ ∃ k bx s n, w.rangeAt b (off + i * 4) (stepC k bx s n) ∧ 0 ≤ bx ∧ bx ≤ 65535 ∧ s.size ≤ 9223372036854775807
section
variable {H : Type} {enc : TypeId × Value → H} {w : World} {base base2 : Nat} {spare : Nat → Bool} {held : Bool}
theorem open_steps {v : Value} {d : DataW H} {p : List MemPlace} (hv : Value.okWide Try.prog w .any base2 22 v) (h : DataW.Trod enc Try.prog w base spare held 22 v d p) :
    ∃ a len cap, StepRow w a len ∧ v = .slice a len cap := by
  obtain ⟨a, len, cap, rfl⟩ := okWide_slice Try.underlying22 hv
  refine ⟨a, len, cap, ?_, rfl⟩
  obtain ⟨h1, b, off, h2⟩ := slice_row Try.underlying22 (by rw [show Try.prog.cellsOf 32 = 4 from by kernel_rfl]; omega) h
  refine ⟨h1, b, off, fun i hi => ?_⟩
  obtain ⟨ha, cs, m, x, hl, hc, ht⟩ := h2 i hi
  have e4 : Try.prog.cellsOf 32 = 4 := by kernel_rfl
  rw [e4] at hl hc
  obtain ⟨xs, m', _, _, _, hxl, hf⟩ := DataW.trod_struct Try.underlying32 ht
  match cs, hl with
  | [c0, c1, c2, c3], _ =>
    have g : ∀ j, j < 4 → ∃ y, xs[j]? = some y := fun j hj => ⟨_, List.getElem?_eq_getElem (by rw [hxl]; exact hj)⟩
    obtain ⟨y0, q0⟩ := g 0 (by omega)
    obtain ⟨y1, q1⟩ := g 1 (by omega)
    obtain ⟨y2, q2⟩ := g 2 (by omega)
    obtain ⟨y3, q3⟩ := g 3 (by omega)
    have f0 := (hf 0 _ rfl).trans q0
    have f1 := (hf 1 _ rfl).trans q1
    have f2 := (hf 2 _ rfl).trans q2
    have f3 := (hf 3 _ rfl).trans q3
    obtain ⟨k, e0, _, _⟩ := DataW.trod_int Try.underlying3 f0
    obtain ⟨bx, e1, _, wb⟩ := DataW.trod_int Try.underlying30 f1
    obtain ⟨s, e2, _, ws⟩ := DataW.trod_string Try.underlying9 f2
    obtain ⟨n, e3, _, _⟩ := DataW.trod_int Try.underlying3 f3
    have c1e : Try.prog.cellsOf 3 = 1 := by kernel_rfl
    have c2e : Try.prog.cellsOf 30 = 1 := by kernel_rfl
    have c3e : Try.prog.cellsOf 9 = 1 := by kernel_rfl
    simp [c1e, c2e, c3e] at e0 e1 e2 e3
    subst e0 e1 e2 e3
    have hb := bounds_u16 wb
    refine ⟨ha, World.block_lt_of_cell? w _ (hc 0 (by omega)), k, bx, s, n, fun j v hv => ?_, hb.1, hb.2, by simp only [maxLen] at ws; omega⟩
    have hj := (List.getElem?_eq_some_iff.1 hv).1
    simp only [stepC, List.length_cons, List.length_nil] at hj
    exact (hc j (by omega)).trans hv
def StrRow (w : World) (a : Option Addr) (len : Nat) : Prop :=
  (len : Int) ≤ 9223372036854775807 ∧ ∃ b off, ∀ i : Nat, i < len → a = some ⟨b, off, none⟩ ∧ b < w.heap.size ∧ ∃ s : ByteArray, w.cell? ⟨b, off + i, none⟩ = some (.string s) ∧ s.size ≤ 9223372036854775807
def BoolRow (w : World) (a : Option Addr) (len : Nat) : Prop :=
  (len : Int) ≤ 9223372036854775807 ∧ ∃ b off, ∀ i : Nat, i < len → a = some ⟨b, off, none⟩ ∧ b < w.heap.size ∧ ∃ x : Bool, w.cell? ⟨b, off + i, none⟩ = some (.bool x)
theorem open_strings_row {v : Value} {d : DataW H} {p : List MemPlace} (hv : Value.okWide Try.prog w .any base2 43 v) (h : DataW.Trod enc Try.prog w base spare held 43 v d p) :
    ∃ a len cap, StrRow w a len ∧ v = .slice a len cap := by
  obtain ⟨a, len, cap, rfl⟩ := okWide_slice Try.underlying43 hv
  refine ⟨a, len, cap, ?_, rfl⟩
  have e1 : Try.prog.cellsOf 9 = 1 := by kernel_rfl
  obtain ⟨h1, b, off, h2⟩ := slice_row Try.underlying43 (by rw [e1]; omega) h
  refine ⟨h1, b, off, fun i hi => ?_⟩
  obtain ⟨ha, cs, m, x, hl, hc, ht⟩ := h2 i hi
  obtain ⟨s, rfl, _, ws⟩ := DataW.trod_string Try.underlying9 ht
  rw [e1] at hc
  have h3 := hc 0 (by omega)
  simp only [Nat.mul_one, Nat.add_zero, List.getElem?_cons_zero] at h3
  exact ⟨ha, World.block_lt_of_cell? w _ h3, s, h3, by simp only [maxLen] at ws; omega⟩
theorem open_bools_row {v : Value} {d : DataW H} {p : List MemPlace} (hv : Value.okWide Try.prog w .any base2 49 v) (h : DataW.Trod enc Try.prog w base spare held 49 v d p) :
    ∃ a len cap, BoolRow w a len ∧ v = .slice a len cap := by
  obtain ⟨a, len, cap, rfl⟩ := okWide_slice Try.underlying49 hv
  refine ⟨a, len, cap, ?_, rfl⟩
  have e1 : Try.prog.cellsOf 4 = 1 := by kernel_rfl
  obtain ⟨h1, b, off, h2⟩ := slice_row Try.underlying49 (by rw [e1]; omega) h
  refine ⟨h1, b, off, fun i hi => ?_⟩
  obtain ⟨ha, cs, m, x, hl, hc, ht⟩ := h2 i hi
  obtain ⟨s, rfl, _⟩ := DataW.trod_bool Try.underlying4 ht
  rw [e1] at hc
  have h3 := hc 0 (by omega)
  simp only [Nat.mul_one, Nat.add_zero, List.getElem?_cons_zero] at h3
  exact ⟨ha, World.block_lt_of_cell? w _ h3, s, h3⟩
end
end Go.Proofs.Ytogicnbocefkbaa
