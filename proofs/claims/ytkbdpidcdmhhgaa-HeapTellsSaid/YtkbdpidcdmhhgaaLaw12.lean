/-
  What the laws of the heap share: the small case of each; a slice of steps that came in.
-/
import Derived.Test.YtkbdpidcdmhhgaaHeapOps
import Derived.Test.YtkbdpidcdmhhgaaRows
import Derived.Test.YtkbdpidcdmhhgaaFrame
namespace Go.Proofs.Ytkbdpidcdmhhgaa
open Go.ChangeShapes Go.WideShapes Go.ChangeAt Go.RowKit Go.Hg
set_option linter.unusedSimpArgs false
set_option linter.unusedVariables false
set_option maxRecDepth 10000 in
set_option maxHeartbeats 1000000 in
theorem shown_c {w0 w : World} {L : List SP} (H : At w0 L w) : Calls Try.prog 9 #[] w fun e w' => e = .returned (.bool true) ∧ At w0 L w' := by
  have hR0 := RowOK.nil 0
  have hR1 : RowOK [(5, 0, 1)] 1 := hR0.push 5 1
  have hR2 : RowOK [(5, 0, 1), (3, 1, 2)] 2 := hR1.push 3 2
  have hR3 : RowOK [(5, 0, 1), (3, 1, 2), (5, 2, 3)] 3 := hR2.push 5 3
  have hR4 : RowOK [(5, 0, 1), (5, 2, 3)] 3 := hR3.popR 9
  have hR5 : RowOK [(5, 2, 3)] 3 := hR4.popR 9
  go_enter Try.func9, Try.ntmps9
  go_wp2_with fail
  refine (newI_c H 3).mono ?_; rintro e w' ⟨p, rfl, H⟩
  replace H : At w0 (heapI p 3 0 [] :: L) w' := H
  go_wp2_with fail
  refine (pushI_c H (by omega) (by omega) (by simp) 5 1).mono ?_; rintro e w' ⟨rfl, H⟩
  replace H : At w0 (heapI p 3 1 [(5, 0, 1)] :: L) w' := H
  rw [show pushN 3 0 [] = 0 from rfl, show pushE 3 [] = 0 from rfl]
  go_wp2_with fail
  refine (pushI_c H (by omega) (by omega) (by simp) 3 2).mono ?_; rintro e w' ⟨rfl, H⟩
  replace H : At w0 (heapI p 3 2 [(5, 0, 1), (3, 1, 2)] :: L) w' := H
  rw [show pushN 3 1 [(5, 0, 1)] = 1 from rfl, show pushE 3 [(5, 0, 1)] = 0 from rfl]
  go_wp2_with fail
  refine (pushI_c H (by omega) (by omega) (by simp) 5 3).mono ?_; rintro e w' ⟨rfl, H⟩
  replace H : At w0 (heapI p 3 3 [(5, 0, 1), (3, 1, 2), (5, 2, 3)] :: L) w' := H
  rw [show pushN 3 2 [(5, 0, 1), (3, 1, 2)] = 2 from rfl, show pushE 3 [(5, 0, 1), (3, 1, 2)] = 0 from rfl]
  go_wp2_with fail
  refine (pushI_c H (by omega) (by omega) (by simp) 1 4).mono ?_; rintro e w' ⟨rfl, H⟩
  replace H : At w0 (heapI p 3 3 [(5, 0, 1), (3, 1, 2), (5, 2, 3)] :: L) w' := H
  rw [show pushN 3 3 [(5, 0, 1), (3, 1, 2), (5, 2, 3)] = 0 from rfl, show pushE 3 [(5, 0, 1), (3, 1, 2), (5, 2, 3)] = 8 from rfl]
  go_wp2_with fail
  refine (popI_c H hR3 (by simp) 2).mono ?_; rintro e w' ⟨rfl, H⟩
  replace H : At w0 (heapI p 3 3 [(5, 0, 1), (3, 1, 2), (5, 2, 3)] :: L) w' := H
  rw [show popX [(5, 0, 1), (3, 1, 2), (5, 2, 3)] 2 = 0 from rfl, show popT [(5, 0, 1), (3, 1, 2), (5, 2, 3)] 2 = 0 from rfl, show popB [(5, 0, 1), (3, 1, 2), (5, 2, 3)] 2 = false from rfl]
  go_wp2_with fail
  refine (popI_c H hR3 (by simp) 9).mono ?_; rintro e w' ⟨rfl, H⟩
  replace H : At w0 (heapI p 3 3 [(5, 0, 1), (5, 2, 3)] :: L) w' := H
  rw [show popX [(5, 0, 1), (3, 1, 2), (5, 2, 3)] 9 = 2 from rfl, show popT [(5, 0, 1), (3, 1, 2), (5, 2, 3)] 9 = 3 from rfl, show popB [(5, 0, 1), (3, 1, 2), (5, 2, 3)] 9 = true from rfl]
  go_wp2_with fail
  refine (popI_c H hR4 (by simp) 9).mono ?_; rintro e w' ⟨rfl, H⟩
  replace H : At w0 (heapI p 3 3 [(5, 2, 3)] :: L) w' := H
  rw [show popX [(5, 0, 1), (5, 2, 3)] 9 = 1 from rfl, show popT [(5, 0, 1), (5, 2, 3)] 9 = 5 from rfl, show popB [(5, 0, 1), (5, 2, 3)] 9 = true from rfl]
  go_wp2_with fail
  refine (popI_c H hR5 (by simp) 9).mono ?_; rintro e w' ⟨rfl, H⟩
  replace H : At w0 (heapI p 3 3 [] :: L) w' := H
  rw [show popX [(5, 2, 3)] 9 = 3 from rfl, show popT [(5, 2, 3)] 9 = 5 from rfl, show popB [(5, 2, 3)] 9 = true from rfl]
  go_wp2_with fail
  refine (lenI_c H).mono ?_; rintro e w' ⟨rfl, rfl⟩
  go_wp2
  go_ret
  exact ⟨rfl, H.tail⟩
/-- A step's cells. -/
def stepC (k t x : Int) : List Value := [.int .i64 k, .int .u64 t, .int .i64 x]
theorem info_Step : (Try.prog.info? 30).map (fun i => (i.zero, i.size, i.bytes)) = some (some (.agg #[.int .i64 0, .int .u64 0, .int .i64 0]), 3, 24) := by kernel_rfl
def StepRow (w : World) (a : Option Addr) (len : Nat) : Prop :=
  (len : Int) ≤ 9223372036854775807 ∧ ∃ b off, ∀ i : Nat, i < len → a = some ⟨b, off, none⟩ ∧ b < w.heap.size ∧ ∃ k t x, w.rangeAt b (off + i * 3) (stepC k t x) ∧ 0 ≤ t ∧ t ≤ 18446744073709551615
section
variable {H : Type} {enc : TypeId × Value → H} {w : World} {base base2 : Nat} {spare : Nat → Bool} {held : Bool}
theorem open_steps {v : Value} {d : DataW H} {p : List MemPlace} (hv : Value.okWide Try.prog w .any base2 22 v) (h : DataW.Trod enc Try.prog w base spare held 22 v d p) :
    ∃ a len cap, StepRow w a len ∧ v = .slice a len cap := by
  obtain ⟨a, len, cap, rfl⟩ := okWide_slice Try.underlying22 hv
  refine ⟨a, len, cap, ?_, rfl⟩
  have e4 : Try.prog.cellsOf 30 = 3 := by kernel_rfl
  obtain ⟨h1, b, off, h2⟩ := slice_row Try.underlying22 (by rw [e4]; omega) h
  refine ⟨h1, b, off, fun i hi => ?_⟩
  obtain ⟨ha, cs, m, x, hl, hc, ht⟩ := h2 i hi
  rw [e4] at hl hc
  obtain ⟨xs, m', _, _, _, hxl, hf⟩ := DataW.trod_struct Try.underlying30 ht
  match cs, hl with
  | [c0, c1, c2], _ =>
    have g : ∀ j, j < 3 → ∃ y, xs[j]? = some y := fun j hj => ⟨_, List.getElem?_eq_getElem (by rw [hxl]; exact hj)⟩
    obtain ⟨y0, q0⟩ := g 0 (by omega)
    obtain ⟨y1, q1⟩ := g 1 (by omega)
    obtain ⟨y2, q2⟩ := g 2 (by omega)
    have f0 := (hf 0 _ rfl).trans q0
    have f1 := (hf 1 _ rfl).trans q1
    have f2 := (hf 2 _ rfl).trans q2
    obtain ⟨k, e0, _, _⟩ := DataW.trod_int Try.underlying3 f0
    obtain ⟨t, e1, _, wt⟩ := DataW.trod_int Try.underlying28 f1
    obtain ⟨n, e2, _, _⟩ := DataW.trod_int Try.underlying3 f2
    have c1e : Try.prog.cellsOf 3 = 1 := by kernel_rfl
    have c2e : Try.prog.cellsOf 28 = 1 := by kernel_rfl
    simp [c1e, c2e] at e0 e1 e2
    subst e0 e1 e2
    have hb := bounds_u64 wt
    refine ⟨ha, World.block_lt_of_cell? w _ (hc 0 (by omega)), k, t, n, fun j v hv => ?_, hb.1, hb.2⟩
    have hj := (List.getElem?_eq_some_iff.1 hv).1
    simp only [stepC, List.length_cons, List.length_nil] at hj
    exact (hc j (by omega)).trans hv
def BoolRow (w : World) (a : Option Addr) (len : Nat) : Prop :=
  (len : Int) ≤ 9223372036854775807 ∧ ∃ b off, ∀ i : Nat, i < len → a = some ⟨b, off, none⟩ ∧ b < w.heap.size ∧ ∃ x : Bool, w.cell? ⟨b, off + i, none⟩ = some (.bool x)
theorem open_bools_row {v : Value} {d : DataW H} {p : List MemPlace} (hv : Value.okWide Try.prog w .any base2 54 v) (h : DataW.Trod enc Try.prog w base spare held 54 v d p) :
    ∃ a len cap, BoolRow w a len ∧ v = .slice a len cap := by
  obtain ⟨a, len, cap, rfl⟩ := okWide_slice Try.underlying54 hv
  refine ⟨a, len, cap, ?_, rfl⟩
  have e1 : Try.prog.cellsOf 4 = 1 := by kernel_rfl
  obtain ⟨h1, b, off, h2⟩ := slice_row Try.underlying54 (by rw [e1]; omega) h
  refine ⟨h1, b, off, fun i hi => ?_⟩
  obtain ⟨ha, cs, m, x, hl, hc, ht⟩ := h2 i hi
  obtain ⟨s, rfl, _⟩ := DataW.trod_bool Try.underlying4 ht
  rw [e1] at hc
  have h3 := hc 0 (by omega)
  simp only [Nat.mul_one, Nat.add_zero, List.getElem?_cons_zero] at h3
  exact ⟨ha, World.block_lt_of_cell? w _ h3, s, h3⟩
end
end Go.Proofs.Ytkbdpidcdmhhgaa
