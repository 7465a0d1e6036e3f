/-
  Bounds and the middle, by what was told. No program in sight.
-/
import Derived.Test.YthhmgodnmgmjdaaTold
namespace Go.Proofs.Ythhmgodnmgmjdaa
open Go.RowKit Go.Hg
set_option linter.unusedVariables false
theorem last_sub {D : List Int} {x : Int} (h : x ∈ last D) : x ∈ D := List.mem_of_mem_drop h
theorem last_new (D : List Int) (d : Int) : d ∈ last (D ++ [d]) := by
  rw [last_add]
  split
  · simp
  · rename_i h
    rw [List.drop_append_of_le_length (by omega)]
    simp
theorem last_few {D : List Int} (h : D.length ≤ 16) : last D = D := by
  unfold last
  rw [show D.length - 16 = 0 by omega]
  rfl
theorem len_few {D : List Int} (h : D.length ≤ 16) : len D = D.length := by unfold len; rw [last_few h]
theorem last_pos {D : List Int} (h : 0 < D.length) : 0 < (last D).length := by rw [last_length]; omega
theorem has_yes {D : List Int} (h : 0 < D.length) : has D = true := decide_eq_true h
theorem lo_mem {D : List Int} (h : 0 < D.length) : lo D ∈ last D := srt_mem (last_pos h)
theorem hi_mem {D : List Int} (h : 0 < D.length) : hi D ∈ last D := srt_mem (by have := last_pos h; omega)
theorem mid_mem {D : List Int} (h : 0 < D.length) : mid D ∈ last D := srt_mem (by have := last_pos h; omega)
theorem lo_le {D : List Int} {x : Int} (h : x ∈ last D) : lo D ≤ x := srt_lo h
theorem le_hi {D : List Int} {x : Int} (h : x ∈ last D) : x ≤ hi D := srt_hi h
theorem lo_eq {D : List Int} {x : Int} (h : x ∈ last D) (hx : ∀ y ∈ last D, x ≤ y) : lo D = x := srt_lo_eq h hx
theorem hi_eq {D : List Int} {x : Int} (h : x ∈ last D) (hx : ∀ y ∈ last D, y ≤ x) : hi D = x := srt_hi_eq h hx
theorem none_all : lo [] = 0 ∧ hi [] = 0 ∧ mid [] = 0 ∧ has [] = false ∧ len [] = 0 := by
  have e : srt (last []) = [] := List.eq_nil_of_length_eq_zero (by rw [srt_length]; rfl)
  refine ⟨?_, ?_, ?_, rfl, rfl⟩
  · unfold lo; rw [e]; rfl
  · unfold hi; rw [e]; rfl
  · unfold mid; rw [e]; rfl
/-- All alike. -/
theorem all_same {D : List Int} {d : Int} (h : 0 < D.length) (hd : ∀ x ∈ last D, x = d) : lo D = d ∧ hi D = d ∧ mid D = d ∧ has D = true :=
  ⟨hd _ (lo_mem h), hd _ (hi_mem h), hd _ (mid_mem h), has_yes h⟩
theorem forgets {D : List Int} {d : Int} : ∀ x ∈ last (D ++ List.replicate 16 d), x = d := by
  intro x hx
  unfold last at hx
  rw [show (D ++ List.replicate 16 d).length - 16 = D.length by simp, List.drop_left] at hx
  exact (List.mem_replicate.1 hx).2
theorem within {D : List Int} {d m : Int} (h : ∀ x ∈ D, -m ≤ x ∧ x ≤ m) (h0 : -m ≤ d ∧ d ≤ m) : -m ≤ lo (D ++ [d]) ∧ hi (D ++ [d]) ≤ m ∧ lo (D ++ [d]) ≤ mid (D ++ [d]) ∧ mid (D ++ [d]) ≤ hi (D ++ [d]) ∧ lo (D ++ [d]) ≤ d ∧ d ≤ hi (D ++ [d]) ∧ has (D ++ [d]) = true := by
  have hl : 0 < (D ++ [d]).length := by simp
  have ha : ∀ x ∈ last (D ++ [d]), -m ≤ x ∧ x ≤ m := fun x hx => by
    have := last_sub hx
    rw [List.mem_append, List.mem_singleton] at this
    rcases this with h1 | rfl
    · exact h x h1
    · exact h0
  exact ⟨(ha _ (lo_mem hl)).1, (ha _ (hi_mem hl)).2, lo_le (mid_mem hl), le_hi (mid_mem hl), lo_le (last_new D d), le_hi (last_new D d), has_yes hl⟩
theorem told_mem {f g : Nat → Int} {x : Int} : ∀ {j : Nat}, x ∈ told f g j → -9223372036854775807 ≤ x ∧ x ≤ 9223372036854775807
  | j + 1, h => by
    unfold told at h
    split at h
    · rename_i hb
      rw [List.mem_append, List.mem_singleton] at h
      rcases h with h | rfl
      · exact told_mem h
      · have := of_decide_eq_true hb
        unfold apZ
        rw [if_pos hb]
        exact this
    · exact told_mem h
theorem ap_turn (l r : Int) : apB r l = apB l r ∧ apZ r l = -apZ l r := by
  have h : apB r l = apB l r := decide_eq_decide.2 (by omega)
  refine ⟨h, ?_⟩
  unfold apZ
  rw [h]
  split
  · omega
  · rfl
theorem told_turn (f g : Nat → Int) : ∀ j, told g f j = (told f g j).map (fun x => -x)
  | 0 => rfl
  | j + 1 => by
    have ih := told_turn f g j
    have := ap_turn (f j) (g j)
    unfold told
    rw [this.1, this.2, ih]
    split
    · simp
    · rfl
theorem last_turn (D : List Int) : last (D.map fun x => -x) = (last D).map fun x => -x := by
  unfold last
  rw [List.length_map, List.map_drop]
theorem turned {D : List Int} (hD : ∀ x ∈ D, -9223372036854775807 ≤ x ∧ x ≤ 9223372036854775807) : lo D = -hi (D.map fun x => -x) ∧ hi D = -lo (D.map fun x => -x) ∧ has (D.map fun x => -x) = has D ∧ len (D.map fun x => -x) = len D ∧
    -9223372036854775807 ≤ lo (D.map fun x => -x) ∧ lo (D.map fun x => -x) ≤ 9223372036854775807 ∧ -9223372036854775807 ≤ hi (D.map fun x => -x) ∧ hi (D.map fun x => -x) ≤ 9223372036854775807 := by
  by_cases h : 0 < D.length
  · have h' : 0 < (D.map fun x => -x).length := by rw [List.length_map]; exact h
    have m1 := lo_mem h
    have m2 := hi_mem h
    have m3 := lo_mem h'
    have m4 := hi_mem h'
    have t : ∀ x, x ∈ last (D.map fun x => -x) ↔ -x ∈ last D := fun x => by
      rw [last_turn, List.mem_map]
      constructor
      · rintro ⟨y, hy, rfl⟩
        rwa [Int.neg_neg]
      · intro hx
        exact ⟨-x, hx, by omega⟩
    have q1 := le_hi ((t (-lo D)).2 (by rw [Int.neg_neg]; exact m1))
    have q2 := lo_le ((t (-hi D)).2 (by rw [Int.neg_neg]; exact m2))
    have q3 := le_hi ((t _).1 m3)
    have q4 := lo_le ((t _).1 m4)
    have r3 := hD _ (last_sub ((t _).1 m3))
    have r4 := hD _ (last_sub ((t _).1 m4))
    refine ⟨by omega, by omega, by unfold has; rw [List.length_map], by unfold len; rw [last_turn, List.length_map], by omega, by omega, by omega, by omega⟩
  · obtain rfl : D = [] := List.eq_nil_of_length_eq_zero (by omega)
    obtain ⟨h1, h2, h3, h4, h5⟩ := none_all
    rw [List.map_nil, h1, h2, h4, h5]
    decide
def tell (f g : Nat → Int) (i : Nat) : List Int := if apB (f i) (g i) = true then [apZ (f i) (g i)] else []
theorem told_flat (f g : Nat → Int) : ∀ j, told f g j = (List.range j).flatMap (tell f g)
  | 0 => rfl
  | j + 1 => by
    rw [List.range_succ, List.flatMap_append, ← told_flat f g j]
    rw [show told f g (j + 1) = if apB (f j) (g j) = true then told f g j ++ [apZ (f j) (g j)] else told f g j from rfl]
    simp only [List.flatMap_cons, List.flatMap_nil, List.append_nil]
    unfold tell
    split <;> simp
theorem range_turn (n : Nat) : (List.range n).map (fun i => n - 1 - i) = (List.range n).reverse := by
  apply List.ext_getElem
  · simp
  · intro i h1 h2
    simp at h1 h2 ⊢
theorem told_back (f g : Nat → Int) (n : Nat) : (told (fun i => f (n - 1 - i)) (fun i => g (n - 1 - i)) n).Perm (told f g n) := by
  rw [told_flat, told_flat]
  have : (List.range n).flatMap (tell (fun i => f (n - 1 - i)) (fun i => g (n - 1 - i))) = ((List.range n).map fun i => n - 1 - i).flatMap (tell f g) := by
    rw [List.flatMap_map]
    rfl
  rw [this, range_turn]
  exact List.Perm.flatMap_right _ (List.reverse_perm _)
theorem same_all {D E : List Int} (h : D.Perm E) (hl : D.length ≤ 16) : lo D = lo E ∧ hi D = hi E ∧ mid D = mid E ∧ has D = has E ∧ len D = len E := by
  have hl2 := h.length_eq
  have e : srt (last D) = srt (last E) := by rw [last_few hl, last_few (by omega)]; exact srt_eq h
  have e2 : (last D).length = (last E).length := by rw [last_length, last_length, hl2]
  refine ⟨by unfold lo; rw [e], by unfold hi; rw [e, e2], by unfold mid; rw [e, e2], by unfold has; rw [hl2], e2⟩
end Go.Proofs.Ythhmgodnmgmjdaa
