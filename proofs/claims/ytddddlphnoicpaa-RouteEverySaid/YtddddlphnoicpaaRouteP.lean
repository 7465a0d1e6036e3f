/-
  What a route is, plainly: as long as is asked for, no node twice, all among the nodes, the last one at the end.
-/
import Derived.Test.YtddddlphnoicpaaRouteD
namespace Go.Proofs.Ytddddlphnoicpaa
open Go.RowKit Go.Hg
theorem erase_perm {L : List Int} {k : Nat} (hk : k < L.length) : (gz L k :: L.eraseIdx k).Perm L := by
  have e : L[k] = gz L k := (gz_of (List.getElem?_eq_getElem hk)).symm
  have h3 : L = L.take k ++ gz L k :: L.drop (k + 1) := by rw [← e, ← List.drop_eq_getElem_cons hk, List.take_append_drop]
  rw [List.eraseIdx_eq_take_drop_succ]
  exact List.perm_middle.symm.trans (List.Perm.of_eq h3.symm)
theorem drawn_perm {ws left : List Int} (h : ws.length ≤ left.length) : ((drawn ws left).1 ++ (drawn ws left).2).Perm left := by
  have key : ∀ (ws : List Int) (p : List Int × List Int), ws.length ≤ p.2.length → ((ws.foldl lstep p).1 ++ (ws.foldl lstep p).2).Perm (p.1 ++ p.2) := by
    intro ws
    induction ws with
    | nil => intro p _; exact List.Perm.refl _
    | cons x ws ih =>
      intro p hp
      simp only [List.length_cons] at hp
      obtain ⟨k, hk, hkl⟩ := place (w := x) (n := p.2.length) (by omega)
      have e : lstep p x = (p.1 ++ [gz p.2 k], p.2.eraseIdx k) := by unfold lstep; rw [hk, Int.toNat_natCast]
      rw [List.foldl_cons, e]
      refine (ih _ (by simp only [List.length_eraseIdx, if_pos hkl]; omega)).trans ?_
      simp only [List.append_assoc]
      exact (erase_perm hkl).append_left p.1
  simpa [drawn] using key ws ([], left) h
theorem drawR_ok {ws xs : List Int} {hops last : Int} (hz : wrongZ ws.length xs hops last = 0) :
    ((drawR ws xs hops last).length : Int) = hops ∧ (∀ i j, i < j → j < (drawR ws xs hops last).length → gz (drawR ws xs hops last) i ≠ gz (drawR ws xs hops last) j) ∧ (∀ x ∈ drawR ws xs hops last, x ∈ xs) ∧ gz (drawR ws xs hops last) (hops - 1).toNat = last := by
  obtain ⟨b1, b2, b3, b4, b5, b6, b7⟩ := wrong_ok hz
  have hl := others_length (rises_nodup b4) b5
  have hw : (ws.take (hops - 1).toNat).length = (hops - 1).toNat := by rw [List.length_take]; omega
  have hlen := drawn_length (ws := ws.take (hops - 1).toNat) (left := others last xs) (by omega)
  have hperm := drawn_perm (ws := ws.take (hops - 1).toNat) (left := others last xs) (by omega)
  have hnd : (others last xs).Nodup := (rises_nodup b4).sublist List.filter_sublist
  have hR : drawR ws xs hops last = (drawn (ws.take (hops - 1).toNat) (others last xs)).1 ++ [last] := by unfold drawR; rw [if_pos hz]
  rw [hR]
  obtain ⟨out, ho⟩ : ∃ out, out = (drawn (ws.take (hops - 1).toNat) (others last xs)).1 := ⟨_, rfl⟩
  rw [← ho] at hlen hperm ⊢
  rw [hw] at hlen
  have hsub : ∀ x ∈ out, x ∈ others last xs := fun x hx => hperm.mem_iff.1 (List.mem_append_left _ hx)
  have hnd2 : (out ++ [last]).Nodup := by
    rw [List.nodup_append]
    refine ⟨((hperm.nodup_iff).2 hnd).sublist (List.sublist_append_left _ _), by simp, fun a ha b hb => ?_⟩
    rw [List.mem_singleton.1 hb]
    have := hsub a ha
    unfold others at this
    have h2 := (List.mem_filter.1 this).2
    simpa using h2
  refine ⟨by simp [hlen]; omega, fun i j hij hj e => ?_, fun x hx => ?_, ?_⟩
  · have h1 := (List.pairwise_iff_getElem.1 hnd2) i j (by omega) hj hij
    apply h1
    have e1 : gz (out ++ [last]) i = (out ++ [last])[i] := gz_of (List.getElem?_eq_getElem _)
    have e2 : gz (out ++ [last]) j = (out ++ [last])[j] := gz_of (List.getElem?_eq_getElem _)
    rw [← e1, ← e2, e]
  · rcases List.mem_append.1 hx with h | h
    · have := hsub x h
      unfold others at this
      exact (List.mem_filter.1 this).1
    · rw [List.mem_singleton.1 h]; exact b5
  · refine gz_of ?_
    rw [← hlen]
    simp
theorem drawR_none {ws xs : List Int} {hops last : Int} (hz : ¬ wrongZ ws.length xs hops last = 0) : drawR ws xs hops last = [] ∧ drawN ws xs hops last = 0 := by
  unfold drawR drawN
  rw [if_neg hz, if_neg hz]
  exact ⟨rfl, rfl⟩
theorem drawN_ok {ws xs : List Int} {hops last : Int} (hz : wrongZ ws.length xs hops last = 0) : drawN ws xs hops last = hops - 1 := by
  unfold drawN
  rw [if_pos hz]
theorem words_bound2 {len : Nat} {k : Nat} {v : Nat → Int} (h : ∀ i : Nat, i < len → 0 ≤ v i ∧ v i ≤ 18446744073709551615) (hk : k ≤ len) : ∀ x ∈ (List.range k).map v, 0 ≤ x ∧ x ≤ 18446744073709551615 := by
  intro x hx
  simp only [List.mem_map, List.mem_range] at hx
  obtain ⟨j, hj, rfl⟩ := hx
  exact h j (by omega)
end Go.Proofs.Ytddddlphnoicpaa
