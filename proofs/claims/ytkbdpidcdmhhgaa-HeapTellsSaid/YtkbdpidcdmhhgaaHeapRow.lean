/-
  A heap's things as a row, in the order in which they went in, plainly: which comes out first, what is told, what is left. No program in sight.
-/
import Derived.Test.YtkbdpidcdmhhgaaHeapLaw
namespace Go.Hg
/-- The place of the first one among the first n: the least tick, of equals the first. -/
def fku (L : List Thing) : Nat → Nat
  | 0 => 0
  | n + 1 => if (g L n).1 < (g L (fku L n)).1 then n else fku L n
def fk (L : List Thing) : Nat := fku L L.length
theorem fku_spec (L : List Thing) (n : Nat) (h0 : 0 < n) : fku L n < n ∧ (∀ j, j < fku L n → (g L (fku L n)).1 < (g L j).1) ∧ ∀ j, j < n → (g L (fku L n)).1 ≤ (g L j).1 := by
  induction n with
  | zero => omega
  | succ n ih =>
    unfold fku
    by_cases hn : n = 0
    · subst hn
      have e : fku L 0 = 0 := rfl
      rw [e, if_neg (by omega)]
      exact ⟨by omega, fun j h => by omega, fun j h => by rw [show j = 0 by omega]; omega⟩
    · obtain ⟨h1, h2, h3⟩ := ih (by omega)
      by_cases h : (g L n).1 < (g L (fku L n)).1
      · rw [if_pos h]
        refine ⟨by omega, fun j hj => ?_, fun j hj => ?_⟩
        · have := h3 j hj; omega
        · by_cases e : j = n
          · subst e; omega
          · have := h3 j (by omega); omega
      · rw [if_neg h]
        refine ⟨by omega, h2, fun j hj => ?_⟩
        by_cases e : j = n
        · subst e; omega
        · exact h3 j (by omega)
theorem fk_lt {L : List Thing} (h : 0 < L.length) : fk L < L.length := (fku_spec L _ h).1
theorem fk_le {L : List Thing} (j : Nat) (h : j < L.length) : (g L (fk L)).1 ≤ (g L j).1 := (fku_spec L _ (by omega)).2.2 j h
theorem fk_first {L : List Thing} (h : 0 < L.length) (j : Nat) (hj : j < fk L) : (g L (fk L)).1 < (g L j).1 := (fku_spec L _ h).2.1 j hj
/-- Numbers rise along the row, and stay below the next one. -/
def RowOK (L : List Thing) (nx : Int) : Prop := (∀ i j, i < j → j < L.length → (g L i).2.1 < (g L j).2.1) ∧ ∀ i, i < L.length → (g L i).2.1 < nx
theorem RowOK.nil (nx : Int) : RowOK [] nx := ⟨fun i j _ h => absurd h (by simp), fun i h => absurd h (by simp)⟩
theorem g_app_last (L : List Thing) (y : Thing) : g (L ++ [y]) L.length = y := g_of (by simp)
theorem RowOK.push {L : List Thing} {nx : Int} (h : RowOK L nx) (t x : Int) : RowOK (L ++ [(t, nx, x)]) (nx + 1) := by
  refine ⟨fun i j hij hj => ?_, fun i hi => ?_⟩
  · simp at hj
    rw [g_append (by omega)]
    by_cases e : j = L.length
    · subst e; rw [g_app_last]; exact h.2 i hij
    · rw [g_append (by omega)]; exact h.1 i j hij (by omega)
  · simp at hi
    by_cases e : i = L.length
    · subst e; rw [g_app_last]; show nx < nx + 1; omega
    · rw [g_append (by omega)]; have := h.2 i (by omega); omega
theorem g_erase (L : List Thing) (k i : Nat) : g (L.eraseIdx k) i = g L (if i < k then i else i + 1) := by
  simp only [g, List.getD_eq_getElem?_getD, List.getElem?_eraseIdx]
  split <;> rfl
theorem RowOK.erase {L : List Thing} {nx : Int} (h : RowOK L nx) (k : Nat) (hk : k < L.length) : RowOK (L.eraseIdx k) nx := by
  have hl : (L.eraseIdx k).length = L.length - 1 := by rw [List.length_eraseIdx, if_pos hk]
  refine ⟨fun i j hij hj => ?_, fun i hi => ?_⟩
  · rw [hl] at hj
    rw [g_erase, g_erase]
    exact h.1 _ _ (by split <;> split <;> omega) (by split <;> omega)
  · rw [hl] at hi
    rw [g_erase]
    exact h.2 _ (by split <;> omega)
/-- The least one of the row is the first one. -/
theorem RowOK.first {L : List Thing} {nx : Int} (h : RowOK L nx) {m : Thing} (hm : m ∈ L) (hl : ∀ u ∈ L, le m u) : m = g L (fk L) := by
  obtain ⟨j, hj⟩ := List.getElem?_of_mem hm
  have hjl : j < L.length := (List.getElem?_eq_some_iff.1 hj).1
  have e := g_of hj
  have h0 : 0 < L.length := by omega
  have h1 := hl (g L (fk L)) (List.mem_of_getElem? (g_get (fk_lt h0)))
  rw [← e] at h1 ⊢
  have h2 := fk_le (L := L) j hjl
  unfold le lt at h1
  rcases Nat.lt_trichotomy j (fk L) with c | c | c
  · have := fk_first h0 j c; omega
  · rw [c]
  · have := h.1 _ _ c hjl; omega
theorem erase_perm {L : List Thing} {k : Nat} (hk : k < L.length) {S : List Thing} (h : (g L k :: S).Perm L) : S.Perm (L.eraseIdx k) := by
  have e : L[k] = g L k := by simp [g, List.getD, hk]
  have h3 : L = L.take k ++ g L k :: L.drop (k + 1) := by rw [← e, ← List.drop_eq_getElem_cons hk, List.take_append_drop]
  have h2 : L.Perm (g L k :: L.eraseIdx k) := by
    rw [List.eraseIdx_eq_take_drop_succ]
    exact (List.Perm.of_eq h3).trans List.perm_middle
  exact (h.trans h2).cons_inv
/-- Whether one comes out. -/
def popB (L : List Thing) (now : Int) : Bool := decide (0 < L.length ∧ (g L (fk L)).1 ≤ now)
def popX (L : List Thing) (now : Int) : Int := if popB L now then (g L (fk L)).2.2 else 0
def popT (L : List Thing) (now : Int) : Int := if popB L now then (g L (fk L)).1 else 0
def popR (L : List Thing) (now : Int) : List Thing := if popB L now then L.eraseIdx (fk L) else L
def nextT (L : List Thing) : Int := if 0 < L.length then (g L (fk L)).1 else 0
def pushE (most : Int) (L : List Thing) : Int := if most ≤ (L.length : Int) then 8 else 0
def pushN (most nx : Int) (L : List Thing) : Int := if most ≤ (L.length : Int) then 0 else nx
def pushX (most nx : Int) (L : List Thing) : Int := if most ≤ (L.length : Int) then nx else nx + 1
def pushL (most nx : Int) (L : List Thing) (t x : Int) : List Thing := if most ≤ (L.length : Int) then L else L ++ [(t, nx, x)]
theorem RowOK.popR {L : List Thing} {nx : Int} (h : RowOK L nx) (now : Int) : RowOK (popR L now) nx := by
  unfold Go.Hg.popR
  split
  · rename_i hb
    exact h.erase _ (fk_lt (of_decide_eq_true hb).1)
  · exact h
theorem RowOK.pushL {L : List Thing} {most nx : Int} (h : RowOK L nx) (t x : Int) : RowOK (pushL most nx L t x) (pushX most nx L) := by
  unfold Go.Hg.pushL Go.Hg.pushX
  split
  · exact h
  · exact h.push t x
theorem popR_length (L : List Thing) (now : Int) : (popR L now).length = if popB L now then L.length - 1 else L.length := by
  unfold popR
  split
  · rename_i hb
    rw [List.length_eraseIdx, if_pos (fk_lt (of_decide_eq_true hb).1)]
  · rfl
theorem popR_le (L : List Thing) (now : Int) : (popR L now).length ≤ L.length := by
  rw [popR_length]; split <;> omega
theorem pushL_le (most nx : Int) (L : List Thing) (t x : Int) : (pushL most nx L t x).length ≤ L.length + 1 := by
  unfold pushL; split <;> simp
theorem popR_sub {L : List Thing} {now : Int} {u : Thing} (h : u ∈ popR L now) : u ∈ L := by
  unfold popR at h
  split at h
  · exact List.mem_of_mem_eraseIdx h
  · exact h
/-- What stays behind when the first one goes comes out behind it. -/
theorem RowOK.rest {L : List Thing} {nx : Int} (h : RowOK L nx) {u : Thing} (hu : u ∈ L.eraseIdx (fk L)) : lt (g L (fk L)) u := by
  obtain ⟨i, hi⟩ := List.getElem?_of_mem hu
  have hil : i < (L.eraseIdx (fk L)).length := (List.getElem?_eq_some_iff.1 hi).1
  rw [← g_of hi, g_erase]
  have h0 : 0 < L.length := by have := List.length_eraseIdx (l := L) (i := fk L); split at this <;> omega
  have hk := fk_lt h0
  rw [List.length_eraseIdx, if_pos hk] at hil
  unfold lt
  split
  · rename_i hlt
    exact .inl (fk_first h0 i hlt)
  · have h1 := fk_le (L := L) (i + 1) (by omega)
    have h2 := h.1 (fk L) (i + 1) (by omega) (by omega)
    omega
theorem first_mem {L : List Thing} (h : 0 < L.length) : g L (fk L) ∈ L := List.mem_of_getElem? (g_get (fk_lt h))
theorem popB_true {L : List Thing} {now : Int} (h0 : 0 < L.length) (h1 : (g L (fk L)).1 ≤ now) : popB L now = true := decide_eq_true ⟨h0, h1⟩
theorem popB_false {L : List Thing} {now : Int} (h : popB L now = false) (u : Thing) (hu : u ∈ L) : now < u.1 := by
  have h1 := of_decide_eq_false h
  obtain ⟨i, hi⟩ := List.getElem?_of_mem hu
  have hil := (List.getElem?_eq_some_iff.1 hi).1
  have h2 := fk_le (L := L) i hil
  rw [g_of hi] at h2
  by_cases h3 : (g L (fk L)).1 ≤ now
  · exact absurd ⟨by omega, h3⟩ h1
  · omega
theorem pop_true {L : List Thing} {now : Int} (h : popB L now = true) : popX L now = (g L (fk L)).2.2 ∧ popT L now = (g L (fk L)).1 ∧ popR L now = L.eraseIdx (fk L) ∧ 0 < L.length ∧ (g L (fk L)).1 ≤ now := by
  have h1 := of_decide_eq_true h
  unfold popX popT popR
  rw [if_pos h, if_pos h, if_pos h]
  exact ⟨rfl, rfl, rfl, h1.1, h1.2⟩
theorem pop_false {L : List Thing} {now : Int} (h : popB L now = false) : popX L now = 0 ∧ popT L now = 0 ∧ popR L now = L := by
  unfold popX popT popR
  rw [h]
  exact ⟨rfl, rfl, rfl⟩
theorem push_room {most nx : Int} {L : List Thing} (h : (L.length : Int) < most) (t x : Int) : pushN most nx L = nx ∧ pushE most L = 0 ∧ pushX most nx L = nx + 1 ∧ pushL most nx L t x = L ++ [(t, nx, x)] := by
  have h1 : ¬ most ≤ (L.length : Int) := by omega
  unfold pushN pushE pushX pushL
  simp only [if_neg h1]
  exact ⟨trivial, trivial, trivial, trivial⟩
theorem push_full {most nx : Int} {L : List Thing} (h : most ≤ (L.length : Int)) (t x : Int) : pushN most nx L = 0 ∧ pushE most L = 8 ∧ pushX most nx L = nx ∧ pushL most nx L t x = L := by
  unfold pushN pushE pushX pushL
  simp only [if_pos h]
  exact ⟨trivial, trivial, trivial, trivial⟩
/-- Ticks that were pushed one behind the other. -/
def row (v : Nat → Int) (n : Nat) : List Thing := (List.range n).map fun j => (v j, (j : Int), (j : Int))
theorem row_succ (v : Nat → Int) (n : Nat) : row v (n + 1) = row v n ++ [(v n, (n : Int), (n : Int))] := by simp [row, List.range_succ]
theorem row_length (v : Nat → Int) (n : Nat) : (row v n).length = n := by simp [row]
theorem row_ok (v : Nat → Int) : ∀ n : Nat, RowOK (row v n) n
  | 0 => RowOK.nil _
  | n + 1 => by rw [row_succ]; exact (row_ok v n).push (v n) n
theorem row_mem {v : Nat → Int} {n : Nat} {u : Thing} (h : u ∈ row v n) : ∃ j : Nat, j < n ∧ u = (v j, (j : Int), (j : Int)) := by
  simp only [row, List.mem_map, List.mem_range] at h
  obtain ⟨j, hj, rfl⟩ := h
  exact ⟨j, hj, rfl⟩
end Go.Hg
