import Derived.Test.YtmflbekabkainaaGreatDoorQHgC
namespace Go.Hg
structure Wt where
 s : SlotD
 p : PktD
namespace Wt
structure ok (x : Wt) : Prop where
 s : x.s.ok
 p : x.p.ok
def zero : Wt := ⟨SlotD.zero, PktD.zero⟩
theorem zero_ok : zero.ok := ⟨SlotD.zero_ok, PktD.zero_ok⟩
def cells (x : Wt) : List Value := x.s.cells ++ x.p.cells
theorem cells_length {x : Wt} (h : x.ok) : x.cells.length = 650 := by rw [cells, List.length_append, SlotD.cells_length h.s.nonce h.s.mac, PktD.cells_length h.p]
theorem cells_one (x : Wt) : ∀ u ∈ x.cells, u.oneCell' = true := fun u hu => by
 rcases List.mem_append.1 hu with h | h
 · exact SlotD.cells_one u h
 · exact PktD.cells_one u h
theorem part_p {x : Wt} (h : x.ok) : (x.cells.drop 40).take 610 = x.p.cells := part2 (SlotD.cells_length h.s.nonce h.s.mac) (PktD.cells_length h.p)
end Wt
abbrev WtO := { x : Wt // x.ok }
instance : Inhabited WtO := ⟨⟨Wt.zero, Wt.zero_ok⟩⟩
abbrev Thing := Int × Int × WtO
def thW (t : Thing) : List Value := [.int .u64 t.1, .int .u64 t.2.1] ++ t.2.2.1.cells
theorem thW_length (t : Thing) : (thW t).length = 652 := by rw [thW, List.length_append, Wt.cells_length t.2.2.2]; rfl
theorem thW_one (t : Thing) : ∀ u ∈ thW t, u.oneCell' = true := fun u hu => by
 rcases List.mem_append.1 hu with h | h
 · simp at h; rcases h with rfl | rfl <;> rfl
 · exact Wt.cells_one _ u h
theorem thW_x (t : Thing) : ((thW t).drop 2).take 650 = t.2.2.1.cells := part2 rfl (Wt.cells_length t.2.2.2)
def lt (a b : Thing) : Prop := a.1 < b.1 ∨ (a.1 = b.1 ∧ a.2.1 < b.2.1)
instance (a b : Thing) : Decidable (lt a b) := inferInstanceAs (Decidable (_ ∨ _))
def le (a b : Thing) : Prop := ¬ lt b a
theorem le_refl (a : Thing) : le a a := by unfold le lt; omega
theorem le_trans {a b c : Thing} (h1 : le a b) (h2 : le b c) : le a c := by unfold le lt at *; omega
theorem le_of_lt {a b : Thing} (h : lt a b) : le a b := by unfold le; unfold lt at *; omega
theorem le_total (a b : Thing) : le a b ∨ le b a := by unfold le lt; omega
def g (l : List Thing) (i : Nat) : Thing := l.getD i (0, 0, default)
theorem g_of {l : List Thing} {i : Nat} {x : Thing} (h : l[i]? = some x) : g l i = x := by simp [g, List.getD, h]
theorem g_get {l : List Thing} {i : Nat} (h : i < l.length) : l[i]? = some (g l i) := by simp [g, List.getD, h]
theorem g_set {l : List Thing} {i k : Nat} (x : Thing) (h : i < l.length) : g (l.set i x) k = if k = i then x else g l k := by
 simp only [g, List.getD_eq_getElem?_getD, List.getElem?_set]
 by_cases hk : i = k
 · subst hk; simp [h]
 · simp [hk, Ne.symm hk]
def sw (l : List Thing) (i j : Nat) : List Thing := (l.set i (g l j)).set j (g l i)
theorem sw_length (l : List Thing) (i j : Nat) : (sw l i j).length = l.length := by simp [sw]
theorem g_sw {l : List Thing} {i j k : Nat} (hi : i < l.length) (hj : j < l.length) : g (sw l i j) k = if k = j then g l i else if k = i then g l j else g l k := by
 unfold sw
 rw [g_set _ (by simpa using hj), g_set _ hi]
theorem sw_perm {l : List Thing} {i j : Nat} (hi : i < l.length) (hj : j < l.length) : (sw l i j).Perm l := by
 have e1 : g l i = l[i] := by simp [g, List.getD, hi]
 have e2 : g l j = l[j] := by simp [g, List.getD, hj]
 unfold sw
 rw [e1, e2]
 exact List.set_set_perm hi hj
def HeapOK (l : List Thing) : Prop := ∀ j, 0 < j → j < l.length → le (g l ((j - 1) / 2)) (g l j)
def UpOK (l : List Thing) (i : Nat) : Prop := (∀ j, 0 < j → j < l.length → j ≠ i → le (g l ((j - 1) / 2)) (g l j)) ∧ ∀ j, 0 < j → j < l.length → (j - 1) / 2 = i → 0 < i → le (g l ((i - 1) / 2)) (g l j)
def DownOK (l : List Thing) (i : Nat) : Prop := (∀ j, 0 < j → j < l.length → (j - 1) / 2 ≠ i → le (g l ((j - 1) / 2)) (g l j)) ∧ ∀ j, 0 < j → j < l.length → (j - 1) / 2 = i → 0 < i → le (g l ((i - 1) / 2)) (g l j)
theorem UpOK.stop {l : List Thing} {i : Nat} (h : UpOK l i) (hs : 0 < i → i < l.length → le (g l ((i - 1) / 2)) (g l i)) : HeapOK l := fun j h0 hj => by
 by_cases e : j = i
 · subst e; exact hs h0 hj
 · exact h.1 j h0 hj e
theorem UpOK.step {l : List Thing} {i : Nat} (h : UpOK l i) (h0 : 0 < i) (hi : i < l.length) (hlt : lt (g l i) (g l ((i - 1) / 2))) : UpOK (sw l i ((i - 1) / 2)) ((i - 1) / 2) := by
 have hp : (i - 1) / 2 < l.length := by omega
 have hpi : (i - 1) / 2 ≠ i := by omega
 refine ⟨fun j j0 hj hne => ?_, fun j j0 hj he p0 => ?_⟩
 · rw [sw_length] at hj
   rw [g_sw hi hp, g_sw hi hp]
   by_cases e1 : j = i
   · subst e1
     rw [if_pos rfl, if_neg (Ne.symm hpi), if_pos rfl]
     exact le_of_lt hlt
   · rw [if_neg hne, if_neg e1]
     by_cases e2 : (j - 1) / 2 = (i - 1) / 2
     · rw [if_pos e2]
       exact le_trans (le_of_lt hlt) (e2 ▸ h.1 j j0 hj e1)
     · rw [if_neg e2]
       by_cases e3 : (j - 1) / 2 = i
       · rw [if_pos e3]
         exact h.2 j j0 hj e3 h0
       · rw [if_neg e3]
         exact h.1 j j0 hj e1
 · rw [sw_length] at hj
   rw [g_sw hi hp, g_sw hi hp]
   have q : ((i - 1) / 2 - 1) / 2 ≠ (i - 1) / 2 := by omega
   have q2 : ((i - 1) / 2 - 1) / 2 ≠ i := by omega
   have hq := h.1 ((i - 1) / 2) p0 hp hpi
   rw [if_neg q, if_neg q2]
   by_cases e1 : j = (i - 1) / 2
   · omega
   · rw [if_neg e1]
     by_cases e2 : j = i
     · rw [if_pos e2]; exact hq
     · rw [if_neg e2]
       exact le_trans hq (he ▸ h.1 j j0 hj e2)
theorem DownOK.stop {l : List Thing} {i : Nat} (h : DownOK l i) (h1 : 2 * i + 1 < l.length → le (g l i) (g l (2 * i + 1))) (h2 : 2 * i + 2 < l.length → le (g l i) (g l (2 * i + 2))) : HeapOK l := fun j h0 hj => by
 by_cases e : (j - 1) / 2 = i
 · rcases (by omega : j = 2 * i + 1 ∨ j = 2 * i + 2) with rfl | rfl
   · rw [e]; exact h1 hj
   · rw [e]; exact h2 hj
 · exact h.1 j h0 hj e
theorem DownOK.step {l : List Thing} {i k : Nat} (h : DownOK l i) (hk : k < l.length) (hki : (k - 1) / 2 = i) (k0 : 0 < k) (hlt : lt (g l k) (g l i)) (hl : ∀ j, 0 < j → j < l.length → (j - 1) / 2 = i → le (g l k) (g l j)) : DownOK (sw l i k) k := by
 have hi : i < l.length := by omega
 refine ⟨fun j j0 hj hne => ?_, fun j j0 hj he _ => ?_⟩
 · rw [sw_length] at hj
   rw [g_sw hi hk, g_sw hi hk, if_neg hne]
   by_cases e1 : j = k
   · subst e1
     rw [if_pos hki, if_pos rfl]
     exact le_of_lt hlt
   · rw [if_neg e1]
     by_cases e2 : (j - 1) / 2 = i
     · rw [if_pos e2, if_neg (by omega)]
       exact hl j j0 hj e2
     · rw [if_neg e2]
       by_cases e3 : j = i
       · rw [if_pos e3]
         exact e3 ▸ h.2 k k0 hk hki (by omega)
       · rw [if_neg e3]
         exact h.1 j j0 hj e2
 · rw [sw_length] at hj
   rw [hki, g_sw hi hk, g_sw hi hk, if_neg (by omega), if_pos rfl, if_neg (by omega), if_neg (by omega)]
   exact he ▸ h.1 j j0 hj (by omega)
theorem HeapOK.least {l : List Thing} (h : HeapOK l) : ∀ j, j < l.length → le (g l 0) (g l j) := by
 intro j
 induction j using Nat.strongRecOn with
 | _ j ih =>
  intro hj
  by_cases e : j = 0
  · subst e; exact le_refl _
  · exact le_trans (ih ((j - 1) / 2) (by omega) (by omega)) (h j (by omega) hj)
theorem g_take {l : List Thing} {n k : Nat} (h : k < n) : g (l.take n) k = g l k := by
 simp only [g, List.getD_eq_getElem?_getD, List.getElem?_take, if_pos h]
theorem g_append {l m : List Thing} {k : Nat} (h : k < l.length) : g (l ++ m) k = g l k := by
 simp only [g, List.getD_eq_getElem?_getD, List.getElem?_append_left h]
theorem HeapOK.push {l : List Thing} (h : HeapOK l) (x : Thing) : UpOK (l ++ [x]) l.length := by
 refine ⟨fun j j0 hj hne => ?_, fun j j0 hj he h0 => ?_⟩
 · simp at hj
   rw [g_append (by omega), g_append (by omega)]
   exact h j j0 (by omega)
 · simp at hj; omega
theorem HeapOK.pop {l : List Thing} (h : HeapOK l) {n : Nat} (hn : l.length = n + 1) : DownOK ((sw l 0 n).take n) 0 ∧ (g l 0 :: (sw l 0 n).take n).Perm l := by
 constructor
 · refine ⟨fun j j0 hj hne => ?_, fun j j0 hj he h0 => absurd h0 (by omega)⟩
   have hj2 : j < n := by simp [sw_length] at hj; omega
   rw [g_take (by omega), g_take hj2, g_sw (by omega) (by omega), g_sw (by omega) (by omega), if_neg (by omega), if_neg hne, if_neg (by omega), if_neg (by omega)]
   exact h j j0 (by omega)
 · have e1 : sw l 0 n = (sw l 0 n).take n ++ [g l 0] := by
     have e2 : (sw l 0 n).drop n = [g l 0] := by
      have h3 : (sw l 0 n)[n]? = some (g l 0) := by rw [g_get (by rw [sw_length]; omega), g_sw (by omega) (by omega), if_pos rfl]
      obtain ⟨h4, h5⟩ := List.getElem?_eq_some_iff.1 h3
      rw [List.drop_eq_getElem_cons h4, h5, List.drop_of_length_le (by rw [sw_length]; omega)]
     rw [← e2, List.take_append_drop]
   have h6 := sw_perm (l := l) (i := 0) (j := n) (by omega) (by omega)
   rw [e1] at h6
   exact (List.perm_append_singleton _ _).symm.trans h6
def fku (L : List Thing) : Nat → Nat
 | 0 => 0
 | n + 1 => if (g L n).1 < (g L (fku L n)).1 then n else fku L n
def fk (L : List Thing) : Nat := fku L L.length
theorem fku_spec (L : List Thing) (n : Nat) (h0 : 0 < n) : fku L n < n ∧ (∀ j, j < fku L n → (g L (fku L n)).1 < (g L j).1) ∧ ∀ j, j < n → (g L (fku L n)).1 ≤ (g L j).1 := by
 induction n with
 | zero => omega
 | succ n ih =>
  unfold fku
  by_cases hn : n = 0
  · subst hn
    have e : fku L 0 = 0 := rfl
    rw [e, if_neg (by omega)]
    exact ⟨by omega, fun j h => by omega, fun j h => by rw [show j = 0 by omega]; omega⟩
  · obtain ⟨h1, h2, h3⟩ := ih (by omega)
    by_cases h : (g L n).1 < (g L (fku L n)).1
    · rw [if_pos h]
      refine ⟨by omega, fun j hj => ?_, fun j hj => ?_⟩
      · have := h3 j hj; omega
      · by_cases e : j = n
        · subst e; omega
        · have := h3 j (by omega); omega
    · rw [if_neg h]
      refine ⟨by omega, h2, fun j hj => ?_⟩
      by_cases e : j = n
      · subst e; omega
      · exact h3 j (by omega)
theorem fk_lt {L : List Thing} (h : 0 < L.length) : fk L < L.length := (fku_spec L _ h).1
theorem fk_le {L : List Thing} (j : Nat) (h : j < L.length) : (g L (fk L)).1 ≤ (g L j).1 := (fku_spec L _ (by omega)).2.2 j h
theorem fk_first {L : List Thing} (h : 0 < L.length) (j : Nat) (hj : j < fk L) : (g L (fk L)).1 < (g L j).1 := (fku_spec L _ h).2.1 j hj
def RowOK (L : List Thing) (nx : Int) : Prop := (∀ i j, i < j → j < L.length → (g L i).2.1 < (g L j).2.1) ∧ ∀ i, i < L.length → (g L i).2.1 < nx
theorem RowOK.nil (nx : Int) : RowOK [] nx := ⟨fun i j _ h => absurd h (by simp), fun i h => absurd h (by simp)⟩
theorem g_app_last (L : List Thing) (y : Thing) : g (L ++ [y]) L.length = y := g_of (by simp)
theorem RowOK.push {L : List Thing} {nx : Int} (h : RowOK L nx) (t : Int) (x : WtO) : RowOK (L ++ [(t, nx, x)]) (nx + 1) := by
 refine ⟨fun i j hij hj => ?_, fun i hi => ?_⟩
 · simp at hj
   rw [g_append (by omega)]
   by_cases e : j = L.length
   · subst e; rw [g_app_last]; exact h.2 i hij
   · rw [g_append (by omega)]; exact h.1 i j hij (by omega)
 · simp at hi
   by_cases e : i = L.length
   · subst e; rw [g_app_last]; show nx < nx + 1; omega
   · rw [g_append (by omega)]; have := h.2 i (by omega); omega
theorem g_erase (L : List Thing) (k i : Nat) : g (L.eraseIdx k) i = g L (if i < k then i else i + 1) := by
 simp only [g, List.getD_eq_getElem?_getD, List.getElem?_eraseIdx]
 split <;> rfl
theorem RowOK.erase {L : List Thing} {nx : Int} (h : RowOK L nx) (k : Nat) (hk : k < L.length) : RowOK (L.eraseIdx k) nx := by
 have hl : (L.eraseIdx k).length = L.length - 1 := by rw [List.length_eraseIdx, if_pos hk]
 refine ⟨fun i j hij hj => ?_, fun i hi => ?_⟩
 · rw [hl] at hj
   rw [g_erase, g_erase]
   exact h.1 _ _ (by split <;> split <;> omega) (by split <;> omega)
 · rw [hl] at hi
   rw [g_erase]
   exact h.2 _ (by split <;> omega)
theorem RowOK.first {L : List Thing} {nx : Int} (h : RowOK L nx) {m : Thing} (hm : m ∈ L) (hl : ∀ u ∈ L, le m u) : m = g L (fk L) := by
 obtain ⟨j, hj⟩ := List.getElem?_of_mem hm
 have hjl : j < L.length := (List.getElem?_eq_some_iff.1 hj).1
 have e := g_of hj
 have h0 : 0 < L.length := by omega
 have h1 := hl (g L (fk L)) (List.mem_of_getElem? (g_get (fk_lt h0)))
 rw [← e] at h1 ⊢
 have h2 := fk_le (L := L) j hjl
 unfold le lt at h1
 rcases Nat.lt_trichotomy j (fk L) with c | c | c
 · have := fk_first h0 j c; omega
 · rw [c]
 · have := h.1 _ _ c hjl; omega
theorem erase_perm {L : List Thing} {k : Nat} (hk : k < L.length) {S : List Thing} (h : (g L k :: S).Perm L) : S.Perm (L.eraseIdx k) := by
 have e : L[k] = g L k := by simp [g, List.getD, hk]
 have h3 : L = L.take k ++ g L k :: L.drop (k + 1) := by rw [← e, ← List.drop_eq_getElem_cons hk, List.take_append_drop]
 have h2 : L.Perm (g L k :: L.eraseIdx k) := by
  rw [List.eraseIdx_eq_take_drop_succ]
  exact (List.Perm.of_eq h3).trans List.perm_middle
 exact (h.trans h2).cons_inv
def popB (L : List Thing) (now : Int) : Bool := decide (0 < L.length ∧ (g L (fk L)).1 ≤ now)
def popX (L : List Thing) (now : Int) : WtO := if popB L now then (g L (fk L)).2.2 else default
def popT (L : List Thing) (now : Int) : Int := if popB L now then (g L (fk L)).1 else 0
def popR (L : List Thing) (now : Int) : List Thing := if popB L now then L.eraseIdx (fk L) else L
theorem RowOK.popR {L : List Thing} {nx : Int} (h : RowOK L nx) (now : Int) : RowOK (popR L now) nx := by
 unfold Go.Hg.popR
 split
 · rename_i hb
   exact h.erase _ (fk_lt (of_decide_eq_true hb).1)
 · exact h
theorem popR_length (L : List Thing) (now : Int) : (popR L now).length = if popB L now then L.length - 1 else L.length := by
 unfold popR
 split
 · rename_i hb
   rw [List.length_eraseIdx, if_pos (fk_lt (of_decide_eq_true hb).1)]
 · rfl
theorem popR_le (L : List Thing) (now : Int) : (popR L now).length ≤ L.length := by
 rw [popR_length]; split <;> omega
theorem popR_sub {L : List Thing} {now : Int} {u : Thing} (h : u ∈ popR L now) : u ∈ L := by
 unfold popR at h
 split at h
 · exact List.mem_of_mem_eraseIdx h
 · exact h
theorem RowOK.rest {L : List Thing} {nx : Int} (h : RowOK L nx) {u : Thing} (hu : u ∈ L.eraseIdx (fk L)) : lt (g L (fk L)) u := by
 obtain ⟨i, hi⟩ := List.getElem?_of_mem hu
 have hil : i < (L.eraseIdx (fk L)).length := (List.getElem?_eq_some_iff.1 hi).1
 rw [← g_of hi, g_erase]
 have h0 : 0 < L.length := by have := List.length_eraseIdx (l := L) (i := fk L); split at this <;> omega
 have hk := fk_lt h0
 rw [List.length_eraseIdx, if_pos hk] at hil
 unfold lt
 split
 · rename_i hlt
   exact .inl (fk_first h0 i hlt)
 · have h1 := fk_le (L := L) (i + 1) (by omega)
   have h2 := h.1 (fk L) (i + 1) (by omega) (by omega)
   omega
theorem first_mem {L : List Thing} (h : 0 < L.length) : g L (fk L) ∈ L := List.mem_of_getElem? (g_get (fk_lt h))
theorem popB_true {L : List Thing} {now : Int} (h0 : 0 < L.length) (h1 : (g L (fk L)).1 ≤ now) : popB L now = true := decide_eq_true ⟨h0, h1⟩
theorem pop_true {L : List Thing} {now : Int} (h : popB L now = true) : popX L now = (g L (fk L)).2.2 ∧ popT L now = (g L (fk L)).1 ∧ popR L now = L.eraseIdx (fk L) ∧ 0 < L.length ∧ (g L (fk L)).1 ≤ now := by
 have h1 := of_decide_eq_true h
 unfold popX popT popR
 rw [if_pos h, if_pos h, if_pos h]
 exact ⟨rfl, rfl, rfl, h1.1, h1.2⟩
theorem pop_false {L : List Thing} {now : Int} (h : popB L now = false) : popX L now = default ∧ popT L now = 0 ∧ popR L now = L := by
 unfold popX popT popR
 rw [h]
 exact ⟨rfl, rfl, rfl⟩
end Go.Hg
