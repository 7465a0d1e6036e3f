/-
  The last sixteen, sorted: which one has how many ahead of it. No program in sight.
-/
import Derived.Test.YthhmgodnmgmjdaaSees
namespace Go.Hg
set_option linter.unusedVariables false
def srt (zs : List Int) : List Int := zs.mergeSort fun x y => decide (x ≤ y)
theorem srt_length (zs : List Int) : (srt zs).length = zs.length := by simp [srt]
theorem srt_perm (zs : List Int) : (srt zs).Perm zs := List.mergeSort_perm _ _
theorem srt_pw (zs : List Int) : (srt zs).Pairwise (fun a b => a ≤ b) := by
  have h := List.pairwise_mergeSort (le := fun x y : Int => decide (x ≤ y)) (fun a b c h1 h2 => by simp at *; omega) (fun a b => by simp; omega) zs
  exact h.imp fun h => by simpa using h
theorem srt_eq {xs ys : List Int} (h : xs.Perm ys) : srt xs = srt ys :=
  List.Perm.eq_of_pairwise (le := fun a b => a ≤ b) (fun a b _ _ h1 h2 => by omega) (srt_pw xs) (srt_pw ys) ((srt_perm xs).trans (h.trans (srt_perm ys).symm))
theorem srt_unique {xs ys : List Int} (hp : ys.Perm xs) (hw : ys.Pairwise (fun a b => a ≤ b)) : srt xs = ys :=
  List.Perm.eq_of_pairwise (le := fun a b => a ≤ b) (fun a b _ _ h1 h2 => by omega) (srt_pw xs) hw ((srt_perm xs).trans hp.symm)
theorem gz_le {xs : List Int} {i j : Nat} (hij : i ≤ j) (hj : j < xs.length) : gz (srt xs) i ≤ gz (srt xs) j := by
  have h := List.pairwise_iff_getElem.1 (srt_pw xs)
  have hl := srt_length xs
  by_cases e : i = j
  · subst e; omega
  · have := h i j (by omega) (by omega) (by omega)
    simp only [gz, List.getD_eq_getElem?_getD]
    rw [List.getElem?_eq_getElem (by omega), List.getElem?_eq_getElem (by omega)]
    exact this
theorem srt_mem {xs : List Int} {i : Nat} (h : i < xs.length) : gz (srt xs) i ∈ xs := (srt_perm xs).mem_iff.1 (gz_mem (by rw [srt_length]; exact h))
theorem srt_lo {xs : List Int} {x : Int} (h : x ∈ xs) : gz (srt xs) 0 ≤ x := by
  obtain ⟨i, hi, rfl⟩ := mem_gz ((srt_perm xs).mem_iff.2 h)
  exact gz_le (Nat.zero_le _) (by rw [srt_length] at hi; exact hi)
theorem srt_hi {xs : List Int} {x : Int} (h : x ∈ xs) : x ≤ gz (srt xs) (xs.length - 1) := by
  obtain ⟨i, hi, rfl⟩ := mem_gz ((srt_perm xs).mem_iff.2 h)
  rw [srt_length] at hi
  exact gz_le (by omega) (by omega)
theorem srt_lo_eq {xs : List Int} {x : Int} (h : x ∈ xs) (hx : ∀ y ∈ xs, x ≤ y) : gz (srt xs) 0 = x := by
  have h1 := srt_lo h
  have h2 := hx _ (srt_mem (i := 0) (by have := List.length_pos_of_mem h; omega))
  omega
theorem srt_hi_eq {xs : List Int} {x : Int} (h : x ∈ xs) (hx : ∀ y ∈ xs, y ≤ x) : gz (srt xs) (xs.length - 1) = x := by
  have h1 := srt_hi h
  have h2 := hx _ (srt_mem (i := xs.length - 1) (by have := List.length_pos_of_mem h; omega))
  omega
theorem countP_le_of {p : Int → Bool} : ∀ (ys : List Int) (n : Nat), (∀ j, n ≤ j → j < ys.length → p (gz ys j) = false) → ys.countP p ≤ n
  | [], n, _ => by simp
  | y :: ys, 0, h => by
    have h0 : p y = false := h 0 (by omega) (by simp)
    have := countP_le_of ys 0 fun j _ hj => by simpa [gz] using h (j + 1) (by omega) (by simp; omega)
    rw [List.countP_cons_of_neg (by simp [h0])]
    exact this
  | y :: ys, n + 1, h => by
    have := countP_le_of ys n fun j hn hj => by simpa [gz] using h (j + 1) (by omega) (by simp; omega)
    rw [List.countP_cons]
    split <;> omega
theorem countP_ge_of {p : Int → Bool} : ∀ (ys : List Int) (n : Nat), n ≤ ys.length → (∀ j, j < n → p (gz ys j) = true) → n ≤ ys.countP p
  | _, 0, _, _ => Nat.zero_le _
  | [], n + 1, h, _ => by simp at h
  | y :: ys, n + 1, hn, h => by
    have h0 : p y = true := h 0 (by omega)
    have := countP_ge_of ys n (by simpa using hn) fun j hj => by simpa [gz] using h (j + 1) (by omega)
    rw [List.countP_cons_of_pos h0]
    omega
def less (xs : List Int) (x : Int) : Nat := xs.countP fun y => decide (y < x)
def same (xs : List Int) (x : Int) : Nat := xs.countP fun y => decide (y = x)
theorem less_same (x : Int) : ∀ xs : List Int, less xs x + same xs x = xs.countP fun y => decide (y ≤ x)
  | [] => rfl
  | y :: xs => by
    have ih := less_same x xs
    unfold less same at *
    simp only [List.countP_cons, decide_eq_true_eq]
    rcases Int.lt_trichotomy y x with h | h | h
    · rw [if_pos h, if_neg (by omega), if_pos (by omega)]; omega
    · rw [if_neg (by omega), if_pos h, if_pos (by omega)]; omega
    · rw [if_neg (by omega), if_neg (by omega), if_neg (by omega)]; omega
/-- Who has at most so many below, and more below or alike, is the one at that place. -/
theorem rank_found {xs : List Int} {x : Int} {n : Nat} (h1 : less xs x ≤ n) (h2 : n < less xs x + same xs x) : gz (srt xs) n = x := by
  rw [less_same] at h2
  have hn : n < xs.length := Nat.lt_of_lt_of_le h2 List.countP_le_length
  unfold less at h1
  rw [← (srt_perm xs).countP_eq] at h1 h2
  rcases Int.lt_trichotomy (gz (srt xs) n) x with h | h | h
  · have := countP_ge_of (p := fun y => decide (y < x)) (srt xs) (n + 1) (by rw [srt_length]; omega) fun j hj => by
      have := gz_le (xs := xs) (i := j) (j := n) (by omega) hn
      exact decide_eq_true (by omega)
    omega
  · exact h
  · have := countP_le_of (p := fun y => decide (y ≤ x)) (srt xs) n fun j hj hl => by
      have := gz_le (xs := xs) (i := n) (j := j) hj (by rw [srt_length] at hl; exact hl)
      exact decide_eq_false (by omega)
    omega
theorem rank_there {xs : List Int} {n : Nat} (hn : n < xs.length) : less xs (gz (srt xs) n) ≤ n ∧ n < less xs (gz (srt xs) n) + same xs (gz (srt xs) n) := by
  rw [less_same]
  unfold less
  rw [← (srt_perm xs).countP_eq, ← (srt_perm xs).countP_eq]
  constructor
  · exact countP_le_of _ _ fun j hj hl => by
      have := gz_le (xs := xs) (i := n) (j := j) hj (by rw [srt_length] at hl; exact hl)
      exact decide_eq_false (by omega)
  · exact countP_ge_of _ (n + 1) (by rw [srt_length]; omega) fun j hj => by
      have := gz_le (xs := xs) (i := j) (j := n) (by omega) hn
      exact decide_eq_true (by omega)
theorem rank_none {xs : List Int} {n : Nat} (h : ∀ i, i < xs.length → ¬ (less xs (gz xs i) ≤ n ∧ n < less xs (gz xs i) + same xs (gz xs i))) : gz (srt xs) n = 0 := by
  by_cases hn : n < xs.length
  · obtain ⟨i, hi, e⟩ := mem_gz (srt_mem hn)
    have := rank_there hn
    rw [← e] at this
    exact absurd this (h i hi)
  · simp [gz, List.getD, srt_length, hn]
/-- The last sixteen. -/
def last (D : List Int) : List Int := D.drop (D.length - 16)
theorem last_length (D : List Int) : (last D).length = min D.length 16 := by simp [last]; omega
structure Ring (L D : List Int) : Prop where
  len : L.length = 16
  at_ : ∀ t, t < D.length → D.length ≤ t + 16 → gz L (t % 16) = gz D t
theorem Ring.nil : Ring (List.replicate 16 0) [] := ⟨by simp, fun t h => by simp at h⟩
theorem Ring.add {L D : List Int} (h : Ring L D) (d : Int) : Ring (L.set (D.length % 16) d) (D ++ [d]) := by
  refine ⟨by simp [h.len], fun t h1 h2 => ?_⟩
  simp only [List.length_append, List.length_cons, List.length_nil] at h1 h2
  have hl := h.len
  by_cases e : t = D.length
  · subst e
    rw [gz_of (x := d) (by rw [List.getElem?_set_self (by omega)]), gz_of (x := d) (by simp)]
  · have := h.at_ t (by omega) (by omega)
    have hne : D.length % 16 ≠ t % 16 := by omega
    unfold gz at *
    simp only [List.getD_eq_getElem?_getD] at *
    rw [List.getElem?_set_ne hne, this, List.getElem?_append_left (by omega)]
theorem Ring.perm {L D : List Int} (h : Ring L D) : (L.take (min D.length 16)).Perm (last D) := by
  have hl := h.len
  by_cases h16 : D.length ≤ 16
  · have e : last D = D := by unfold last; rw [show D.length - 16 = 0 by omega]; rfl
    rw [e]
    refine .of_eq (List.ext_getElem? fun j => ?_)
    rw [List.getElem?_take]
    by_cases hj : j < D.length
    · have := h.at_ j hj (by omega)
      rw [if_pos (by omega), gz_get (by omega), gz_get hj, ← this, show j % 16 = j by omega]
    · rw [if_neg (by omega), List.getElem?_eq_none (by omega)]
  · rw [show min D.length 16 = 16 by omega]
    obtain ⟨r, hr⟩ : ∃ r, r = D.length % 16 := ⟨_, rfl⟩
    have e : L.take 16 = (last D).drop (16 - r) ++ (last D).take (16 - r) := by
      have hd : (last D).length = 16 := by rw [last_length]; omega
      refine List.ext_getElem? fun j => ?_
      rw [List.getElem?_take]
      by_cases hj : j < 16
      · rw [if_pos hj, gz_get (by omega)]
        by_cases hjr : j < r
        · rw [List.getElem?_append_left (by simp [hd]; omega), List.getElem?_drop]
          unfold last
          rw [List.getElem?_drop, gz_get (by omega), ← h.at_ _ (by omega) (by omega)]
          congr 2
          omega
        · rw [List.getElem?_append_right (by simp [hd]; omega)]
          simp only [List.length_drop, hd]
          rw [List.getElem?_take, if_pos (by omega)]
          unfold last
          rw [List.getElem?_drop, gz_get (by omega), ← h.at_ _ (by omega) (by omega)]
          congr 2
          omega
      · rw [if_neg hj, List.getElem?_eq_none]
        simp [hd]; omega
    rw [e]
    refine List.perm_append_comm.trans ?_
    rw [List.take_append_drop]
theorem Ring.srt_eq {L D : List Int} (h : Ring L D) : srt (L.take (min D.length 16)) = srt (last D) := Go.Hg.srt_eq h.perm
end Go.Hg
