import Derived.Test.YtmflbekabkainaaGreatDoorQNodeS
set_option linter.unusedVariables false
set_option linter.unusedSimpArgs false
namespace Go.Hg
namespace NodeD
def wd (s : NodeD) (d : List Nat) : NodeD := { s with drops := d }
theorem takeE_wd (s : NodeD) (d : List Nat) (b : Bytes) (now : Nat) : (s.wd d).takeE b now = s.takeE b now := rfl
theorem client_wd (s : NodeD) (d : List Nat) (who : Nat) (key : Bytes) : (s.wd d).client who key = (((s.client who key).1).wd d, (s.client who key).2) := by
 by_cases h : mlook s.cl who = none ∧ 16 ≤ s.cl.length
 · have e1 : s.client who key = (s, 8) := if_pos h
   have e2 : (s.wd d).client who key = (s.wd d, 8) := if_pos h
   rw [e1, e2]
 · have e1 : s.client who key = ({ s with cl := upd s.cl who key }, 0) := if_neg h
   have e2 : (s.wd d).client who key = ({ s.wd d with cl := upd s.cl who key }, 0) := if_neg h
   rw [e1, e2]
   rfl
theorem take_yes (s : NodeD) (d : List Nat) {b : Bytes} {now : Nat} (h : s.takeE b now = 0) : (s.wd d).take b now = (s.take b now).wd d := by
 unfold take
 rw [takeE_wd, if_pos h, if_pos h]
 rfl
theorem take_no {s : NodeD} {b : Bytes} {now : Nat} (h : s.takeE b now ≠ 0) : ∃ d, s.take b now = s.wd d := ⟨s.drops.set (s.takeE b now) (s.drops.getD (s.takeE b now) 0 + 1), by unfold take; rw [if_neg h]; rfl⟩
theorem expire_wd (s : NodeD) (d : List Nat) (now : Nat) : (s.wd d).expire now = (s.expire now).wd d := by
 unfold expire
 split <;> rfl
theorem put_wd (s : NodeD) (d : List Nat) (k : Nat) (b : Bytes) : ∃ d', (s.wd d).put k b = (s.put k b).wd d' := by
 unfold put
 show ∃ d', (if s.boxE k = 0 then _ else _ : NodeD) = _
 split
 · exact ⟨d, rfl⟩
 · exact ⟨((s.wd d).drop (s.boxE k)).drops, rfl⟩
theorem pop_wd (s : NodeD) (d : List Nat) (now : Nat) : ∃ d', (s.wd d).pop now = (s.pop now).wd d' := by
 unfold pop
 show ∃ d', (if (popX s.hp now).1.s.last = true then _ else _ : NodeD) = _
 split
 · exact put_wd { s with hp := popR s.hp now } d _ _
 · exact ⟨d, rfl⟩
theorem pops_wd (now : Nat) : ∀ (n : Nat) (s : NodeD) (d : List Nat), ∃ d', pops n (s.wd d) now = (pops n s now).wd d' ∧ popsO n (s.wd d) now = popsO n s now
 | 0, s, d => ⟨d, rfl, rfl⟩
 | n + 1, s, d => by
  unfold pops popsO
  show ∃ d', (if popB s.hp now = true then _ else _ : NodeD) = _ ∧ (if popB s.hp now = true then _ else _ : List (Nat × Bytes)) = _
  split
  · obtain ⟨d', h⟩ := pop_wd s d now
    rw [h]
    obtain ⟨d2, h2, h3⟩ := pops_wd now n (s.pop now) d'
    exact ⟨d2, h2, by rw [h3]; rfl⟩
  · exact ⟨d, rfl, rfl⟩
theorem tick_wd (s : NodeD) (d : List Nat) (now : Nat) : ∃ d', (s.wd d).tick now = (s.tick now).wd d' ∧ (s.wd d).tickO now = s.tickO now := by
 unfold tick tickO
 rw [expire_wd]
 exact pops_wd now s.hp.length (s.expire now) d
def boxesN (s : NodeD) : Nat := (s.mail.map List.length).sum
def dropsN (s : NodeD) : Nat := s.drops.sum
def tot (s : NodeD) : Nat := s.hp.length + s.boxesN + s.dropsN
theorem sum_set : ∀ (l : List Nat) (i x : Nat), i < l.length → (l.set i x).sum + l.getD i 0 = l.sum + x
 | [], i, x, h => by simp at h
 | a :: l, 0, x, h => by simp; omega
 | a :: l, i + 1, x, h => by
  have := sum_set l i x (by simpa using h)
  simp at this ⊢
  omega
theorem dropsN_drop {s : NodeD} {e : Nat} (h : e < s.drops.length) : (s.drop e).dropsN = s.dropsN + 1 := by
 have := sum_set s.drops e (s.drops.getD e 0 + 1) h
 unfold dropsN drop
 show (s.drops.set e (s.drops.getD e 0 + 1)).sum = _
 omega
structure cnt (s : NodeD) (B : Nat) : Prop where
 len : s.drops.length = 13
 none : s.drops.getD 0 0 = 0
 mail : s.mail.length = B
theorem cnt.drop {s : NodeD} {B : Nat} (h : s.cnt B) {e : Nat} (h0 : e ≠ 0) (h1 : e < 13) : (s.drop e).cnt B ∧ (s.drop e).tot = s.tot + 1 := by
 refine ⟨⟨by simp [NodeD.drop, h.len], ?_, h.mail⟩, ?_⟩
 · show (s.drops.set e (s.drops.getD e 0 + 1)).getD 0 0 = 0
   rw [List.getD_eq_getElem?_getD, List.getElem?_set_ne h0, ← List.getD_eq_getElem?_getD]
   exact h.none
 · unfold tot
   rw [dropsN_drop (by rw [h.len]; exact h1)]
   show s.hp.length + s.boxesN + (s.dropsN + 1) = _
   omega
theorem cnt.client {s : NodeD} {B : Nat} (h : s.cnt B) (who : Nat) (key : Bytes) : (s.client who key).1.cnt B ∧ (s.client who key).1.tot = s.tot := by
 unfold NodeD.client
 split
 · exact ⟨h, rfl⟩
 · exact ⟨⟨h.len, h.none, h.mail⟩, rfl⟩
theorem cnt.take {s : NodeD} {B : Nat} (h : s.cnt B) (b : Bytes) (now : Nat) : (s.take b now).cnt B ∧ (s.take b now).tot = s.tot + 1 := by
 unfold NodeD.take
 split
 · refine ⟨⟨h.len, h.none, h.mail⟩, ?_⟩
   show (s.hp ++ [_]).length + s.boxesN + s.dropsN = _
   unfold tot
   simp
   omega
 · rename_i h0
   exact h.drop h0 (by have := s.takeE_le b now; omega)
theorem cnt.expire {s : NodeD} {B : Nat} (h : s.cnt B) (now : Nat) : (s.expire now).cnt B ∧ (s.expire now).tot = s.tot := by
 unfold NodeD.expire
 split
 · exact ⟨⟨h.len, h.none, h.mail⟩, rfl⟩
 · exact ⟨h, rfl⟩
theorem boxE_le (s : NodeD) (k : Nat) : s.boxE k = 0 ∨ s.boxE k = 8 ∨ s.boxE k = 10 := by
 unfold boxE
 split
 · exact .inr (.inr rfl)
 · split
   · exact .inr (.inl rfl)
   · exact .inl rfl
theorem cnt.put {s : NodeD} {B : Nat} (h : s.cnt B) (k : Nat) (b : Bytes) : (s.put k b).cnt B ∧ (s.put k b).tot = s.tot + 1 := by
 unfold NodeD.put
 split
 · rename_i h0
   have hk : k < s.mail.length := by
    unfold boxE at h0
    split at h0
    · omega
    · omega
   refine ⟨⟨h.len, h.none, by show (s.mail.set k _).length = B; rw [List.length_set]; exact h.mail⟩, ?_⟩
   have hs := sum_set (s.mail.map List.length) k ((s.mail.getD k []).length + 1) (by rw [List.length_map]; exact hk)
   have e1 : (s.mail.map List.length).getD k 0 = (s.mail.getD k []).length := by
    simp [List.getD_eq_getElem?_getD, List.getElem?_eq_getElem hk]
   rw [e1] at hs
   show s.hp.length + ((s.mail.set k (s.mail.getD k [] ++ [b])).map List.length).sum + s.dropsN = _
   rw [List.map_set, List.length_append, List.length_singleton]
   unfold tot boxesN
   omega
 · rename_i h0
   exact h.drop h0 (by rcases boxE_le s k with h | h | h <;> omega)
theorem cnt.pop {s : NodeD} {B : Nat} (h : s.cnt B) {now : Nat} (hb : popB s.hp now = true) : (s.pop now).cnt B ∧ (s.pop now).tot + (s.popO now).length = s.tot := by
 have hl := popB_len hb
 have h1 : ({ s with hp := popR s.hp now } : NodeD).cnt B := ⟨h.len, h.none, h.mail⟩
 have h2 : ({ s with hp := popR s.hp now } : NodeD).tot + 1 = s.tot := by
  show (popR s.hp now).length + s.boxesN + s.dropsN + 1 = s.hp.length + s.boxesN + s.dropsN
  omega
 unfold NodeD.pop popO
 split
 · obtain ⟨h3, h4⟩ := h1.put (popX s.hp now).1.s.box (popX s.hp now).1.p.body
   exact ⟨h3, by rw [h4]; exact h2⟩
 · exact ⟨h1, h2⟩
theorem cnt.pops {B : Nat} {now : Nat} : ∀ {n : Nat} {s : NodeD}, s.cnt B → (NodeD.pops n s now).cnt B ∧ (NodeD.pops n s now).tot + (popsO n s now).length = s.tot
 | 0, s, h => ⟨h, rfl⟩
 | n + 1, s, h => by
  unfold NodeD.pops popsO
  split
  · rename_i hb
    obtain ⟨h1, h2⟩ := h.pop hb
    obtain ⟨h3, h4⟩ := cnt.pops (n := n) (now := now) h1
    refine ⟨h3, ?_⟩
    rw [List.length_append]
    omega
  · exact ⟨h, rfl⟩
theorem cnt.tick {s : NodeD} {B : Nat} (h : s.cnt B) (now : Nat) : (s.tick now).cnt B ∧ (s.tick now).tot + (s.tickO now).length = s.tot := by
 obtain ⟨h1, h2⟩ := h.expire now
 unfold NodeD.tick tickO
 obtain ⟨h3, h4⟩ := h1.pops (n := s.hp.length) (now := now)
 exact ⟨h3, h4.trans h2⟩
theorem popsO_le {now : Nat} : ∀ {n : Nat} {s : NodeD}, (popsO n s now).length ≤ n
 | 0, s => Nat.le_refl _
 | n + 1, s => by
  unfold popsO
  split
  · have := popsO_le (n := n) (s := s.pop now) (now := now)
    have h : (s.popO now).length ≤ 1 := by unfold popO; split <;> simp
    rw [List.length_append]
    omega
  · simp
theorem tickO_le (s : NodeD) (now : Nat) : (s.tickO now).length ≤ s.hp.length := popsO_le
theorem expire_hp (s : NodeD) (now : Nat) : (s.expire now).hp = s.hp := by unfold expire; split <;> rfl
theorem pops_all {now : Nat} : ∀ {n : Nat} {s : NodeD}, (∀ t ∈ s.hp, t.1 ≤ (now : Int)) → s.hp.length ≤ n → (NodeD.pops n s now).hp = []
 | 0, s, _, h => List.eq_nil_of_length_eq_zero (by show s.hp.length = 0; omega)
 | n + 1, s, ht, h => by
  unfold NodeD.pops
  split
  · rename_i hb
    have := popB_len hb
    refine pops_all (fun t hm => ?_) (by rw [pop_hp]; omega)
    rw [pop_hp] at hm
    exact ht t (popR_sub hm)
  · rename_i hb
    by_cases h0 : 0 < s.hp.length
    · exact absurd (popB_true h0 (ht _ (first_mem h0))) hb
    · exact List.eq_nil_of_length_eq_zero (by omega)
theorem tick_all {s : NodeD} {now : Nat} (h : ∀ t ∈ s.hp, t.1 ≤ (now : Int)) : (s.tick now).hp = [] := pops_all (by rw [expire_hp]; exact h) (by rw [expire_hp]; exact Nat.le_refl _)
theorem cnt_fresh (addr : Nat) (room tags boxes : Int) : (fresh addr room tags boxes).cnt (min (max boxes 0) 64).toNat := ⟨rfl, rfl, by simp [fresh]⟩
theorem tot_fresh (addr : Nat) (room tags boxes : Int) : (fresh addr room tags boxes).tot = 0 := by
 unfold tot boxesN dropsN
 show 0 + ((List.replicate _ ([] : List Bytes)).map List.length).sum + (List.replicate 13 0).sum = 0
 rw [List.map_replicate]
 simp
end NodeD
end Go.Hg
