/-
  A heap, plainly: each is no less than the one above it; what rises, what sinks; the first one is the least. No program in sight.
-/
import Derived.WalkKit
namespace Go.Hg
/-- A thing: its tick, its number, what it is. -/
abbrev Thing := Int × Int × Int
def lt (a b : Thing) : Prop := a.1 < b.1 ∨ (a.1 = b.1 ∧ a.2.1 < b.2.1)
instance (a b : Thing) : Decidable (lt a b) := inferInstanceAs (Decidable (_ ∨ _))
def le (a b : Thing) : Prop := ¬ lt b a
theorem le_refl (a : Thing) : le a a := by unfold le lt; omega
theorem le_trans {a b c : Thing} (h1 : le a b) (h2 : le b c) : le a c := by unfold le lt at *; omega
theorem le_of_lt {a b : Thing} (h : lt a b) : le a b := by unfold le; unfold lt at *; omega
theorem le_total (a b : Thing) : le a b ∨ le b a := by unfold le lt; omega
def g (l : List Thing) (i : Nat) : Thing := l.getD i (0, 0, 0)
theorem g_of {l : List Thing} {i : Nat} {x : Thing} (h : l[i]? = some x) : g l i = x := by simp [g, List.getD, h]
theorem g_get {l : List Thing} {i : Nat} (h : i < l.length) : l[i]? = some (g l i) := by simp [g, List.getD, h]
theorem g_set {l : List Thing} {i k : Nat} (x : Thing) (h : i < l.length) : g (l.set i x) k = if k = i then x else g l k := by
  simp only [g, List.getD_eq_getElem?_getD, List.getElem?_set]
  by_cases hk : i = k
  · subst hk; simp [h]
  · simp [hk, Ne.symm hk]
/-- Two change places. -/
def sw (l : List Thing) (i j : Nat) : List Thing := (l.set i (g l j)).set j (g l i)
theorem sw_length (l : List Thing) (i j : Nat) : (sw l i j).length = l.length := by simp [sw]
theorem g_sw {l : List Thing} {i j k : Nat} (hi : i < l.length) (hj : j < l.length) : g (sw l i j) k = if k = j then g l i else if k = i then g l j else g l k := by
  unfold sw
  rw [g_set _ (by simpa using hj), g_set _ hi]
theorem sw_perm {l : List Thing} {i j : Nat} (hi : i < l.length) (hj : j < l.length) : (sw l i j).Perm l := by
  have e1 : g l i = l[i] := by simp [g, List.getD, hi]
  have e2 : g l j = l[j] := by simp [g, List.getD, hj]
  unfold sw
  rw [e1, e2]
  exact List.set_set_perm hi hj
/-- A heap. -/
def HeapOK (l : List Thing) : Prop := ∀ j, 0 < j → j < l.length → le (g l ((j - 1) / 2)) (g l j)
/-- A heap but for the one at i, which may rise. -/
def UpOK (l : List Thing) (i : Nat) : Prop := (∀ j, 0 < j → j < l.length → j ≠ i → le (g l ((j - 1) / 2)) (g l j)) ∧ ∀ j, 0 < j → j < l.length → (j - 1) / 2 = i → 0 < i → le (g l ((i - 1) / 2)) (g l j)
/-- A heap but for the one at i, which may sink. -/
def DownOK (l : List Thing) (i : Nat) : Prop := (∀ j, 0 < j → j < l.length → (j - 1) / 2 ≠ i → le (g l ((j - 1) / 2)) (g l j)) ∧ ∀ j, 0 < j → j < l.length → (j - 1) / 2 = i → 0 < i → le (g l ((i - 1) / 2)) (g l j)
theorem UpOK.stop {l : List Thing} {i : Nat} (h : UpOK l i) (hs : 0 < i → i < l.length → le (g l ((i - 1) / 2)) (g l i)) : HeapOK l := fun j h0 hj => by
  by_cases e : j = i
  · subst e; exact hs h0 hj
  · exact h.1 j h0 hj e
theorem UpOK.step {l : List Thing} {i : Nat} (h : UpOK l i) (h0 : 0 < i) (hi : i < l.length) (hlt : lt (g l i) (g l ((i - 1) / 2))) : UpOK (sw l i ((i - 1) / 2)) ((i - 1) / 2) := by
  have hp : (i - 1) / 2 < l.length := by omega
  have hpi : (i - 1) / 2 ≠ i := by omega
  refine ⟨fun j j0 hj hne => ?_, fun j j0 hj he p0 => ?_⟩
  · rw [sw_length] at hj
    rw [g_sw hi hp, g_sw hi hp]
    by_cases e1 : j = i
    · subst e1
      rw [if_pos rfl, if_neg (Ne.symm hpi), if_pos rfl]
      exact le_of_lt hlt
    · rw [if_neg hne, if_neg e1]
      by_cases e2 : (j - 1) / 2 = (i - 1) / 2
      · rw [if_pos e2]
        exact le_trans (le_of_lt hlt) (e2 ▸ h.1 j j0 hj e1)
      · rw [if_neg e2]
        by_cases e3 : (j - 1) / 2 = i
        · rw [if_pos e3]
          exact h.2 j j0 hj e3 h0
        · rw [if_neg e3]
          exact h.1 j j0 hj e1
  · rw [sw_length] at hj
    rw [g_sw hi hp, g_sw hi hp]
    have q : ((i - 1) / 2 - 1) / 2 ≠ (i - 1) / 2 := by omega
    have q2 : ((i - 1) / 2 - 1) / 2 ≠ i := by omega
    have hq := h.1 ((i - 1) / 2) p0 hp hpi
    rw [if_neg q, if_neg q2]
    by_cases e1 : j = (i - 1) / 2
    · omega
    · rw [if_neg e1]
      by_cases e2 : j = i
      · rw [if_pos e2]; exact hq
      · rw [if_neg e2]
        exact le_trans hq (he ▸ h.1 j j0 hj e2)
theorem DownOK.stop {l : List Thing} {i : Nat} (h : DownOK l i) (h1 : 2 * i + 1 < l.length → le (g l i) (g l (2 * i + 1))) (h2 : 2 * i + 2 < l.length → le (g l i) (g l (2 * i + 2))) : HeapOK l := fun j h0 hj => by
  by_cases e : (j - 1) / 2 = i
  · rcases (by omega : j = 2 * i + 1 ∨ j = 2 * i + 2) with rfl | rfl
    · rw [e]; exact h1 hj
    · rw [e]; exact h2 hj
  · exact h.1 j h0 hj e
theorem DownOK.step {l : List Thing} {i k : Nat} (h : DownOK l i) (hk : k < l.length) (hki : (k - 1) / 2 = i) (k0 : 0 < k) (hlt : lt (g l k) (g l i)) (hl : ∀ j, 0 < j → j < l.length → (j - 1) / 2 = i → le (g l k) (g l j)) : DownOK (sw l i k) k := by
  have hi : i < l.length := by omega
  refine ⟨fun j j0 hj hne => ?_, fun j j0 hj he _ => ?_⟩
  · rw [sw_length] at hj
    rw [g_sw hi hk, g_sw hi hk, if_neg hne]
    by_cases e1 : j = k
    · subst e1
      rw [if_pos hki, if_pos rfl]
      exact le_of_lt hlt
    · rw [if_neg e1]
      by_cases e2 : (j - 1) / 2 = i
      · rw [if_pos e2, if_neg (by omega)]
        exact hl j j0 hj e2
      · rw [if_neg e2]
        by_cases e3 : j = i
        · rw [if_pos e3]
          exact e3 ▸ h.2 k k0 hk hki (by omega)
        · rw [if_neg e3]
          exact h.1 j j0 hj e2
  · rw [sw_length] at hj
    rw [hki, g_sw hi hk, g_sw hi hk, if_neg (by omega), if_pos rfl, if_neg (by omega), if_neg (by omega)]
    exact he ▸ h.1 j j0 hj (by omega)
/-- The first one is the least. -/
theorem HeapOK.least {l : List Thing} (h : HeapOK l) : ∀ j, j < l.length → le (g l 0) (g l j) := by
  intro j
  induction j using Nat.strongRecOn with
  | _ j ih =>
    intro hj
    by_cases e : j = 0
    · subst e; exact le_refl _
    · exact le_trans (ih ((j - 1) / 2) (by omega) (by omega)) (h j (by omega) hj)
theorem g_take {l : List Thing} {n k : Nat} (h : k < n) : g (l.take n) k = g l k := by
  simp only [g, List.getD_eq_getElem?_getD, List.getElem?_take, if_pos h]
theorem g_append {l m : List Thing} {k : Nat} (h : k < l.length) : g (l ++ m) k = g l k := by
  simp only [g, List.getD_eq_getElem?_getD, List.getElem?_append_left h]
/-- One more at the end may rise. -/
theorem HeapOK.push {l : List Thing} (h : HeapOK l) (x : Thing) : UpOK (l ++ [x]) l.length := by
  refine ⟨fun j j0 hj hne => ?_, fun j j0 hj he h0 => ?_⟩
  · simp at hj
    rw [g_append (by omega), g_append (by omega)]
    exact h j j0 (by omega)
  · simp at hj; omega
/-- The first one goes, the last one takes its place and may sink. -/
theorem HeapOK.pop {l : List Thing} (h : HeapOK l) {n : Nat} (hn : l.length = n + 1) : DownOK ((sw l 0 n).take n) 0 ∧ (g l 0 :: (sw l 0 n).take n).Perm l := by
  constructor
  · refine ⟨fun j j0 hj hne => ?_, fun j j0 hj he h0 => absurd h0 (by omega)⟩
    have hj2 : j < n := by simp [sw_length] at hj; omega
    rw [g_take (by omega), g_take hj2, g_sw (by omega) (by omega), g_sw (by omega) (by omega), if_neg (by omega), if_neg hne, if_neg (by omega), if_neg (by omega)]
    exact h j j0 (by omega)
  · have e1 : sw l 0 n = (sw l 0 n).take n ++ [g l 0] := by
      have e2 : (sw l 0 n).drop n = [g l 0] := by
        have h3 : (sw l 0 n)[n]? = some (g l 0) := by rw [g_get (by rw [sw_length]; omega), g_sw (by omega) (by omega), if_pos rfl]
        obtain ⟨h4, h5⟩ := List.getElem?_eq_some_iff.1 h3
        rw [List.drop_eq_getElem_cons h4, h5, List.drop_of_length_le (by rw [sw_length]; omega)]
      rw [← e2, List.take_append_drop]
    have h6 := sw_perm (l := l) (i := 0) (j := n) (by omega) (by omega)
    rw [e1] at h6
    exact (List.perm_append_singleton _ _).symm.trans h6
end Go.Hg
