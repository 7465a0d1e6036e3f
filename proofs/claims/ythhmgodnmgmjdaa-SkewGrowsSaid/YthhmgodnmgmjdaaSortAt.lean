/-
  What the library's collecting and sorting leave behind, told as what is owned. No program in sight.
-/
import Derived.Test.YthhmgodnmgmjdaaSees
import Derived.Sort.Grow
namespace Go.Hg
open Go.RowKit
set_option linter.unusedVariables false
section
variable {P : Program} {e : TypeId} {by_ : Nat} {w w' w0 : World} {L : List SP}
/-- A block that is new is owned. -/
theorem At.gain (H : At w0 L w) (g : Below w.heap.size w w') {b : Nat} {o : Obj} (hb : w.heap.size ≤ b) (ho : w'.heap[b]? = some o) : At w0 (one b o :: L) w' := by
  have H' : At w0 (Hg.fact True :: L) w := H.mk_fact trivial
  have hsz := H.below.size
  refine H'.step (Q := one b o) (fun k hk => g.block k (by omega)) g.os g.tape g.output g.size ?_
  intro h _ s _
  refine ⟨fun k => if k = b then some o else none, by simp [one], ?_, ?_, fun k hk _ => g.block k hk⟩
  · intro k x ek
    by_cases hk : k = b
    · subst hk; simp at ek; subst ek; exact ho
    · simp [hk] at ek
  · intro k ek
    by_cases hk : k = b
    · exact .inr (by omega)
    · simp [hk] at ek
theorem At.lrow_gain (H : At w0 L w) (g : Below w.heap.size w w') {v : Value} {zs : List Int} (ho : w'.ownsRow w.heap.size e 1 v zs.length (zs.map (Value.int .i64))) :
    ∃ a cap, v = .slice a zs.length cap ∧ At w0 (lrow e 1 (ic .i64) (.slice a zs.length cap) zs :: L) w' := by
  obtain ⟨_, ⟨rfl, h0⟩ | ⟨gb, cap, cur, rfl, hb, hg, hn, hc, hs, hx⟩⟩ := ho
  · have hz : zs = [] := List.eq_nil_of_length_eq_zero h0
    subst hz
    exact ⟨none, 0, rfl, lrow_nil (H.grown g) (ic .i64) e 1⟩
  · refine ⟨_, cap, rfl, ?_⟩
    have H2 := At.rows_new (H.gain g hb hg) (n := zs.length) (cap := cap) (size := 1) (xs := zs.map (Value.int .i64)) hn hc (by omega) hx
    unfold lrow
    rw [cl_ic]
    exact H2
theorem putCells_row {off : Nat} {d : List Int} {cur : Array Value} (h : off + d.length ≤ cur.size) : ((Sort.putCells (Value.int .i64) off d.toArray cur).toList.drop off).take d.length = d.map (Value.int .i64) := by
  apply List.ext_getElem?
  intro j
  rw [List.getElem?_take]
  by_cases hj : j < d.length
  · rw [if_pos hj, List.getElem?_drop, Array.getElem?_toList, List.getElem?_map]
    unfold Sort.putCells
    rw [Array.getElem?_mapIdx, Array.getElem?_eq_getElem (by omega)]
    simp only [Option.map_some]
    rw [if_pos ⟨by omega, by simp; omega⟩, List.getElem?_eq_getElem hj]
    simp [hj]
  · rw [if_neg hj, List.getElem?_map, List.getElem?_eq_none (by omega)]
    rfl
theorem At.lrow_sorted {gb off cap : Nat} {zs zs' : List Int} (H : At w0 (lrow e 1 (ic .i64) (.slice (some ⟨gb, off, none⟩) zs.length cap) zs :: L) w) (n : Nat) (os : Array Obj) (hl : zs'.length = zs.length) :
    At w0 (lrow e 1 (ic .i64) (.slice (some ⟨gb, off, none⟩) zs'.length cap) zs' :: L) (Sort.grow (Sort.putRow (Value.int .i64) (Sort.ahead w n) gb off zs'.toArray) os) := by
  have H1 : At w0 (lrow e 1 (ic .i64) (.slice (some ⟨gb, off, none⟩) zs.length cap) zs :: L) (Sort.ahead w n) := H.same rfl rfl rfl rfl
  unfold lrow at H1 ⊢
  obtain ⟨cur, hb, hn, hm, hcs, htk⟩ := At.rows_blk H1
  have hsz : (Sort.putCells (Value.int .i64) off zs'.toArray cur).size = cur.size := by unfold Sort.putCells; simp
  have H2 := At.rows_upd H1 (n' := zs'.length) (cur' := Sort.putCells (Value.int .i64) off zs'.toArray cur) (xs' := cl (ic .i64) zs') hb (by omega) hm (by rw [hsz]; exact hcs) (by rw [cl_ic]; simp) (by
    rw [cl_ic, Nat.mul_one]
    exact putCells_row (by omega))
  have e1 : (Sort.ahead w n).setRow gb (Sort.putCells (Value.int .i64) off zs'.toArray cur) = Sort.putRow (Value.int .i64) (Sort.ahead w n) gb off zs'.toArray := by
    unfold World.setRow Sort.putRow Sort.mapBlock
    congr 1
    apply Array.ext_getElem?
    intro k
    simp only [Array.getElem?_modify]
    by_cases hk : gb = k
    · subst hk
      have hb2 : w.heap[gb]? = some (.cells cur e (0, 0)) := hb
      rw [if_pos rfl, if_pos rfl]
      show Option.map _ (w.heap[gb]?) = Option.map _ (w.heap[gb]?)
      rw [hb2]
      rfl
    · simp [hk]
  rw [e1] at H2
  refine H2.grown ⟨rfl, rfl, rfl, ?_, fun k hk => ?_⟩
  · simp [Sort.grow]
  · simp only [Sort.grow]
    rw [Array.getElem?_append_left hk]
/-- What is owned is held as the sort wants it. -/
theorem lrow_holds (E : El P e 1 by_ (ic .i64)) {gb off cap : Nat} {zs : List Int} (H : At w0 (lrow e 1 (ic .i64) (.slice (some ⟨gb, off, none⟩) zs.length cap) zs :: L) w) :
    Sort.Holds (Value.int .i64) w gb off zs.toArray ∧ gb < w.heap.size := by
  have H0 := H
  unfold lrow at H0
  obtain ⟨cur, hb, _⟩ := At.rows_blk H0
  have hlt := (Array.getElem?_eq_some_iff.1 hb).1
  refine ⟨fun j hj => ⟨?_, ?_⟩, hlt⟩
  · have hj2 : j < zs.length := by simpa using hj
    have h := lrow_cell E (j := 0) H 0 rfl (gz_get hj2) rfl
    simp only [Nat.mul_one, Nat.add_zero] at h
    rw [h]
    congr 2
    rw [getElem!_pos _ j hj]
    exact gz_of (by simp [hj2])
  · simp [World.frozen?, hb]
end
end Go.Hg
