/-
  A small separation logic over the model's worlds: what a call owns is told as a list of heap predicates, and the rest of memory is told to stay as it was. No program in sight.
-/
import Derived.WalkKit
import Derived.WalkSpells
import Derived.WalkLawsBesides
import Derived.Deep.MidRow
import Derived.Deep.WholeRow
import Derived.Deep.OwnRows
import Derived.Lib.Hide
namespace Go.Hg
open Go.RowKit

/-- A part of a heap. -/
abbrev Hp := Nat → Option Obj
abbrev SP := Hp → Prop
def Hp.dj (h k : Hp) : Prop := ∀ b, h b = none ∨ k b = none
def Hp.le (h k : Hp) : Prop := ∀ b o, h b = some o → k b = some o
def Hp.jn (h k : Hp) : Hp := fun b => match h b with | some o => some o | none => k b
def sep (P Q : SP) : SP := fun h => ∃ h1 h2, P h1 ∧ Q h2 ∧ h1.dj h2 ∧ h1.le h ∧ h2.le h
def seps : List SP → SP
  | [] => fun _ => True
  | P :: L => sep P (seps L)
def sat (w : World) (h : Hp) : Prop := ∀ b o, h b = some o → w.heap[b]? = some o
/-- Block b holds the object o. -/
def one (b : Nat) (o : Obj) : SP := fun h => h b = some o
/-- Block b is a row of cells, none frozen. -/
abbrev raw (b : Nat) (cs : Array Value) (t : TypeId) : SP := one b (.cells cs t (0, 0))
def fact (p : Prop) : SP := fun _ => p
def ex {α : Type} (P : α → SP) : SP := fun h => ∃ x, P x h

/-- What a call that began at w0 knows of the world: of w0's own blocks nothing has turned; what it owns is told by L. -/
structure At (w0 : World) (L : List SP) (w : World) : Prop where
  below : Below w0.heap.size w0 w
  own : ∃ h, seps L h ∧ sat w h ∧ ∀ b, h b ≠ none → w0.heap.size ≤ b

section algebra
variable {P Q R P' Q' : SP} {h k : Hp} {L L' : List SP}

theorem Hp.le_refl (h : Hp) : h.le h := fun _ _ e => e
theorem Hp.le_trans {a b c : Hp} (x : a.le b) (y : b.le c) : a.le c := fun _ _ e => y _ _ (x _ _ e)
theorem dj_symm (d : h.dj k) : k.dj h := fun b => (d b).symm
theorem dj_le {h' k' : Hp} (d : h.dj k) (x : h'.le h) (y : k'.le k) : h'.dj k' := fun b => by
  cases e : h' b with
  | none => exact .inl rfl
  | some o =>
    cases f : k' b with
    | none => exact .inr rfl
    | some p =>
      have := x _ _ e
      have := y _ _ f
      rcases d b with g | g <;> simp_all
theorem le_jn_l : h.le (h.jn k) := fun b o e => by simp [Hp.jn, e]
theorem le_jn_r (d : h.dj k) : k.le (h.jn k) := fun b o e => by
  rcases d b with f | f <;> simp_all [Hp.jn]
theorem jn_le {l : Hp} (x : h.le l) (y : k.le l) : (h.jn k).le l := fun b o e => by
  unfold Hp.jn at e
  cases f : h b with
  | none => simp [f] at e; exact y _ _ e
  | some p => simp [f] at e; subst e; exact x _ _ f
theorem dj_jn {a : Hp} (x : a.dj h) (y : a.dj k) : a.dj (h.jn k) := fun b => by
  rcases x b with e | e
  · exact .inl e
  · rcases y b with f | f
    · exact .inl f
    · exact .inr (by simp [Hp.jn, e, f])

theorem sep_up (H : sep P Q h) (x : h.le k) : sep P Q k := by
  obtain ⟨h1, h2, p, q, d, a, b⟩ := H
  exact ⟨h1, h2, p, q, d, Hp.le_trans a x, Hp.le_trans b x⟩
theorem seps_up (H : seps L h) (x : h.le k) : seps L k := by
  cases L with
  | nil => trivial
  | cons P L => exact sep_up H x
theorem sep_mono (H : sep P Q h) (hp : ∀ h, P h → P' h) (hq : ∀ h, Q h → Q' h) : sep P' Q' h := by
  obtain ⟨h1, h2, p, q, r⟩ := H
  exact ⟨h1, h2, hp _ p, hq _ q, r⟩
theorem sep_swap (H : sep P (sep Q R) h) : sep Q (sep P R) h := by
  obtain ⟨h1, hr, p, ⟨h2, h3, q, r, d23, l2, l3⟩, d, la, lb⟩ := H
  have d12 : h1.dj h2 := dj_le d (Hp.le_refl _) l2
  have d13 : h1.dj h3 := dj_le d (Hp.le_refl _) l3
  exact ⟨h2, h1.jn h3, q, ⟨h1, h3, p, r, d13, le_jn_l, le_jn_r d13⟩, dj_jn (dj_symm d12) d23, Hp.le_trans l2 lb, jn_le la (Hp.le_trans l3 lb)⟩
theorem seps_perm (hp : L.Perm L') : ∀ h, seps L h → seps L' h := by
  induction hp with
  | nil => exact fun h H => H
  | cons P _ ih => exact fun h H => sep_mono H (fun _ p => p) ih
  | swap P Q L => exact fun h H => sep_swap H
  | trans _ _ ih1 ih2 => exact fun h H => ih2 h (ih1 h H)
theorem sep_tail (H : sep P (seps L) h) : seps L h := by
  obtain ⟨h1, h2, _, q, _, _, b⟩ := H
  exact seps_up q b
theorem seps_split : ∀ (L : List SP) (h : Hp), seps (L ++ L') h → sep (seps L) (seps L') h := by
  intro L
  induction L with
  | nil => exact fun h H => ⟨fun _ => none, h, trivial, H, fun _ => .inl rfl, fun _ _ e => (nomatch e), Hp.le_refl _⟩
  | cons P L ih =>
    intro h H
    obtain ⟨h1, hr, p, q, d, la, lb⟩ := H
    obtain ⟨h2, h3, q2, q3, d23, l2, l3⟩ := ih _ q
    have d12 : h1.dj h2 := dj_le d (Hp.le_refl _) l2
    have d13 : h1.dj h3 := dj_le d (Hp.le_refl _) l3
    exact ⟨h1.jn h2, h3, ⟨h1, h2, p, q2, d12, le_jn_l, le_jn_r d12⟩, q3, dj_symm (dj_jn (dj_symm d13) (dj_symm d23)), jn_le la (Hp.le_trans l2 lb), Hp.le_trans l3 lb⟩
theorem seps_join : ∀ (L : List SP) (h : Hp), sep (seps L) (seps L') h → seps (L ++ L') h := by
  intro L
  induction L with
  | nil => intro h H; exact sep_tail H
  | cons P L ih =>
    intro h H
    obtain ⟨h1, h2, ⟨a, b, p, q, d, la, lb⟩, r, d', lc, ld⟩ := H
    have dbr : b.dj h2 := dj_le d' lb (Hp.le_refl _)
    have dar : a.dj h2 := dj_le d' la (Hp.le_refl _)
    exact ⟨a, b.jn h2, p, ih _ ⟨b, h2, q, r, dbr, le_jn_l, le_jn_r dbr⟩, dj_jn d dar, Hp.le_trans la lc, jn_le (Hp.le_trans lb lc) ld⟩
end algebra

theorem perm_erase : ∀ (L : List SP) (i : Nat) (P : SP), L[i]? = some P → (P :: L.eraseIdx i).Perm L
  | [], i, P, h => by simp at h
  | Q :: L, 0, P, h => by simp at h; subst h; simp
  | Q :: L, i + 1, P, h => by
    simp at h
    exact (List.Perm.swap Q P _).trans ((perm_erase L i P h).cons Q)

section at_
variable {w0 w w' : World} {P Q : SP} {L L' A : List SP}

theorem sat.lt {h : Hp} (s : sat w h) {b : Nat} (hb : h b ≠ none) : b < w.heap.size := by
  cases hh : h b with
  | none => exact absurd hh hb
  | some o => exact (Array.getElem?_eq_some_iff.1 (s b o hh)).1

theorem At.start (w : World) : At w [] w := ⟨Below.refl _ _, fun _ => none, trivial, fun _ _ e => (nomatch e), fun _ e => absurd rfl e⟩
theorem At.imp (H : At w0 L w) (f : ∀ h, seps L h → seps L' h) : At w0 L' w := by
  obtain ⟨b, h, s, t, u⟩ := H
  exact ⟨b, h, f h s, t, u⟩
theorem At.perm (H : At w0 L w) (p : L.Perm L') : At w0 L' w := H.imp (seps_perm p)
/-- The i-th to the front. -/
theorem At.pull (H : At w0 L w) (i : Nat) (hi : L[i]? = some P) : At w0 (P :: L.eraseIdx i) w := by
  exact H.perm (perm_erase L i P hi).symm
theorem At.tail (H : At w0 (P :: L) w) : At w0 L w := H.imp fun _ => sep_tail
theorem At.imp1 (H : At w0 (P :: L) w) (f : ∀ h, P h → Q h) : At w0 (Q :: L) w := H.imp fun _ s => sep_mono s f fun _ t => t
/-- What is behind the first one. -/
theorem At.under (H : At w0 (P :: L) w) (f : ∀ h, seps L h → seps L' h) : At w0 (P :: L') w := H.imp fun _ s => sep_mono s (fun _ p => p) f
/-- What the first one is made of. -/
theorem At.opened (H : At w0 (P :: L) w) (f : ∀ h, P h → seps A h) : At w0 (A ++ L) w := H.imp fun h s => seps_join A h (sep_mono s f fun _ t => t)
theorem At.closed (H : At w0 (A ++ L) w) (f : ∀ h, seps A h → P h) : At w0 (P :: L) w := H.imp fun h s => sep_mono (seps_split A h s) f fun _ t => t
theorem At.ex {α : Type} {F : α → SP} (H : At w0 (Hg.ex F :: L) w) : ∃ x, At w0 (F x :: L) w := by
  obtain ⟨b, h, ⟨h1, h2, ⟨x, p⟩, q, r⟩, t, u⟩ := H
  exact ⟨x, b, h, ⟨h1, h2, p, q, r⟩, t, u⟩
theorem At.mk_ex {α : Type} {F : α → SP} (x : α) (H : At w0 (F x :: L) w) : At w0 (Hg.ex F :: L) w := H.imp1 fun _ p => ⟨x, p⟩
theorem At.fact {p : Prop} (H : At w0 (Hg.fact p :: L) w) : p ∧ At w0 L w := by
  refine ⟨?_, H.tail⟩
  obtain ⟨b, h, ⟨h1, h2, x, _⟩, _⟩ := H
  exact x
/-- A fact that the first one tells. -/
theorem At.tells {p : Prop} (H : At w0 (P :: L) w) (f : ∀ h, P h → p) : p := by
  obtain ⟨b, h, ⟨h1, h2, x, _⟩, _⟩ := H
  exact f _ x
theorem At.mk_fact {p : Prop} (hp : p) (H : At w0 L w) : At w0 (Hg.fact p :: L) w :=
  H.imp fun h s => ⟨fun _ => none, h, hp, s, fun _ => .inl rfl, fun _ _ e => (nomatch e), Hp.le_refl _⟩

/-- THE FRAME: what is done to the first one alone. -/
theorem At.step (H : At w0 (P :: L) w) (bel : ∀ b, b < w0.heap.size → w'.heap[b]? = w.heap[b]?) (hos : w'.os = w.os) (htp : w'.tape = w.tape) (hout : w'.output = w.output) (hsz : w.heap.size ≤ w'.heap.size)
    (f : ∀ h, P h → sat w h → (∀ b, h b ≠ none → w0.heap.size ≤ b) →
      ∃ h', Q h' ∧ sat w' h' ∧ (∀ b, h' b ≠ none → h b ≠ none ∨ w.heap.size ≤ b) ∧ ∀ b, b < w.heap.size → h b = none → w'.heap[b]? = w.heap[b]?) : At w0 (Q :: L) w' := by
  obtain ⟨hb, h, ⟨h1, h2, p, q, d, l1, l2⟩, s, u⟩ := H
  have s1 : sat w h1 := fun b o e => s b o (l1 b o e)
  have u1 : ∀ b, h1 b ≠ none → w0.heap.size ≤ b := fun b e => by
    cases hh : h1 b with
    | none => exact absurd hh e
    | some o => exact u b (by rw [l1 b o hh]; simp)
  obtain ⟨h', q', s', n', k'⟩ := f h1 p s1 u1
  have dj : h'.dj h2 := fun b => by
    by_cases e : h' b = none
    · exact .inl e
    · rcases n' b e with g | g
      · exact .inr ((d b).resolve_left g)
      · refine .inr ?_
        cases hh : h2 b with
        | none => rfl
        | some o => exact absurd (sat.lt s (b := b) (by rw [l2 b o hh]; simp)) (by omega)
  refine ⟨⟨hos.trans hb.os, htp.trans hb.tape, hout.trans hb.output, Nat.le_trans hb.size hsz, fun b hlt => (bel b hlt).trans (hb.block b hlt)⟩, h'.jn h2, ⟨h', h2, q', q, dj, le_jn_l, le_jn_r dj⟩, ?_, ?_⟩
  · intro b o e
    unfold Hp.jn at e
    cases hh : h' b with
    | some x => simp [hh] at e; subst e; exact s' b x hh
    | none =>
      simp [hh] at e
      have e2 := s b o (l2 b o e)
      have e3 : h1 b = none := (d b).resolve_right (by rw [e]; simp)
      rw [k' b (sat.lt s (by rw [l2 b o e]; simp)) e3]
      exact e2
  · intro b e
    unfold Hp.jn at e
    cases hh : h' b with
    | some x =>
      rcases n' b (by rw [hh]; simp) with g | g
      · exact u1 b g
      · have := hb.size; omega
    | none =>
      simp [hh] at e
      cases h3 : h2 b with
      | none => exact absurd h3 e
      | some o => exact u b (by rw [l2 b o h3]; simp)

/-- A world of the same blocks. -/
theorem At.same (H : At w0 L w) (hh : w'.heap = w.heap) (hos : w'.os = w.os) (htp : w'.tape = w.tape) (hout : w'.output = w.output) : At w0 L w' := by
  obtain ⟨hb, h, s, t, u⟩ := H
  exact ⟨⟨hos.trans hb.os, htp.trans hb.tape, hout.trans hb.output, by rw [hh]; exact hb.size, fun b hlt => by rw [hh]; exact hb.block b hlt⟩, h, s, fun b o e => by rw [hh]; exact t b o e, u⟩
theorem At.drew (H : At w0 L w) : At w0 L w.drew := H.same rfl rfl rfl rfl
theorem At.drewN (H : At w0 L w) (n : Nat) : At w0 L (w.drewN n) := H.same rfl rfl rfl rfl
/-- Whatever has written to no block that was there. -/
theorem At.grown (H : At w0 L w) (g : Below w.heap.size w w') : At w0 L w' := by
  obtain ⟨hb, h, s, t, u⟩ := H
  refine ⟨hb.trans (g.mono hb.size), h, s, fun b o e => ?_, u⟩
  rw [g.block b (sat.lt t (by rw [e]; simp))]
  exact t b o e
/-- A new block. -/
theorem At.alloc (H : At w0 L w) (o : Obj) : At w0 (one w.heap.size o :: L) (w.alloc o) := by
  have H' : At w0 (Hg.fact True :: L) w := H.mk_fact trivial
  have hsz := H.below.size
  refine H'.step (Q := one w.heap.size o) (fun b hb => Below.heap_alloc _ _ _ (by omega)) rfl rfl rfl (by simp) ?_
  intro h _ s _
  refine ⟨fun b => if b = w.heap.size then some o else none, by simp [one], ?_, ?_, fun b hb _ => Below.heap_alloc _ _ _ hb⟩
  · intro b x e
    by_cases hb : b = w.heap.size
    · subst hb; simp at e; subst e; exact heap_alloc_last w o
    · simp [hb] at e
  · intro b e
    by_cases hb : b = w.heap.size
    · exact .inr (by omega)
    · simp [hb] at e
theorem At.one_heap {b : Nat} {o : Obj} (H : At w0 (one b o :: L) w) : w.heap[b]? = some o := by
  obtain ⟨hb, h, ⟨h1, h2, p, q, d, l1, l2⟩, s, u⟩ := H
  exact s b o (l1 b o p)
theorem At.one_base {b : Nat} {o : Obj} (H : At w0 (one b o :: L) w) : w0.heap.size ≤ b := by
  obtain ⟨hb, h, ⟨h1, h2, p, q, d, l1, l2⟩, s, u⟩ := H
  exact u b (by rw [l1 b o p]; simp)
/-- The i-th is a block: what it holds. -/
theorem At.heap (H : At w0 L w) (i : Nat) {b : Nat} {o : Obj} (hi : L[i]? = some (one b o)) : w.heap[b]? = some o := (H.pull i hi).one_heap
/-- Two blocks that are told apart are apart. -/
theorem At.ne {b c : Nat} {o p : Obj} (H : At w0 (one b o :: one c p :: L) w) : b ≠ c := by
  obtain ⟨hb, h, ⟨h1, h2, x, ⟨h3, h4, y, _, _, l3, _⟩, d, _, _⟩, s, u⟩ := H
  rintro rfl
  rcases d b with e | e
  · have : h1 b = some o := x; simp [this] at e
  · have : h2 b = some p := l3 _ _ y; simp [this] at e

/-- Another object in the first block. -/
theorem At.put {b : Nat} {o o' : Obj} (H : At w0 (one b o :: L) w) (hw : w'.heap[b]? = some o') (hk : ∀ k, k ≠ b → w'.heap[k]? = w.heap[k]?) (hos : w'.os = w.os) (htp : w'.tape = w.tape) (hout : w'.output = w.output) (hsz : w.heap.size ≤ w'.heap.size) : At w0 (one b o' :: L) w' := by
  have hbase := H.one_base
  refine H.step (Q := one b o') (fun k hk' => hk k (by omega)) hos htp hout hsz ?_
  intro h p s _
  refine ⟨fun k => if k = b then some o' else none, by simp [one], ?_, ?_, ?_⟩
  · intro k x e
    by_cases hb : k = b
    · subst hb; simp at e; subst e; exact hw
    · simp [hb] at e
  · intro k e
    by_cases hb : k = b
    · subst hb; exact .inl (by have : h k = some o := p; simp [this])
    · simp [hb] at e
  · intro k _ e
    refine hk k ?_
    rintro rfl
    have : h k = some o := p
    simp [this] at e

theorem At.set {b off : Nat} {cs : Array Value} {t : TypeId} {fr : Nat × Nat} (H : At w0 (one b (.cells cs t fr) :: L) w) (v : Value) : At w0 (one b (.cells (cs.setIfInBounds off v) t fr) :: L) (w.setCell ⟨b, off, none⟩ v) := by
  have hb := H.one_heap
  have hlt : b < w.heap.size := (Array.getElem?_eq_some_iff.1 hb).1
  refine H.put (o' := .cells (cs.setIfInBounds off v) t fr) ?_ (fun k hk => Below.heap_setCell _ _ _ _ hk) rfl rfl rfl (by simp)
  have := (Array.getElem?_eq_some_iff.1 hb).2
  simp [World.setCell, Array.getElem?_modify, hb]
/-- The i-th block is written. -/
theorem At.setAt (H : At w0 L w) (i : Nat) {b : Nat} (off : Nat) {cs : Array Value} {t : TypeId} {fr : Nat × Nat} (hi : L[i]? = some (one b (.cells cs t fr))) (v : Value) : At w0 (L.set i (one b (.cells (cs.setIfInBounds off v) t fr))) (w.setCell ⟨b, off, none⟩ v) := by
  have H' := (H.pull i hi).set (off := off) v
  refine H'.perm ?_
  obtain ⟨hl, _⟩ := List.getElem?_eq_some_iff.1 hi
  have h2 := perm_erase (L.set i (one b (.cells (cs.setIfInBounds off v) t fr))) i (one b (.cells (cs.setIfInBounds off v) t fr)) (by simp [hl])
  rwa [List.eraseIdx_set_eq] at h2
theorem At.setRow {b : Nat} {cs cs' : Array Value} {t : TypeId} (H : At w0 (raw b cs t :: L) w) : At w0 (raw b cs' t :: L) (w.setRow b cs') := by
  have hb := H.one_heap
  exact H.put (setRow_heap w b cs cs' t _ hb) (fun k hk => setRow_other w b k _ (fun e => hk e)) rfl rfl rfl (by simp)
end at_

/-! ### Reading -/
theorem raw_cell {w : World} {b : Nat} {cs : Array Value} {t : TypeId} {fr : Nat × Nat} (h : w.heap[b]? = some (.cells cs t fr)) (j : Nat) : w.cell? ⟨b, j, none⟩ = cs[j]? := cell_of_row w b j cs t fr h
theorem raw_free {w : World} {b : Nat} {cs : Array Value} {t : TypeId} (h : w.heap[b]? = some (.cells cs t (0, 0))) (j : Nat) : w.frozen? ⟨b, j, none⟩ = false := frozen_of_row w b j cs t h

/-! ### A slice whose block is owned -/
/-- v is a slice of n elements (of type e, size cells each) whose cells are xs; all of its block is owned. -/
def rows (e : TypeId) (size : Nat) (v : Value) (n : Nat) (xs : List Value) : SP := fun h =>
  xs.length = n * size ∧ ((v = .slice none 0 0 ∧ n = 0) ∨
    ∃ g off cap cur, v = .slice (some ⟨g, off, none⟩) n cap ∧ h g = some (.cells cur e (0, 0)) ∧ n ≤ cap ∧ cap ≤ maxLen ∧ off + cap * size ≤ cur.size ∧ (cur.toList.drop off).take (n * size) = xs)

section rows
variable {w0 w : World} {L : List SP} {e : TypeId} {size : Nat} {v : Value} {n : Nat} {xs : List Value}

theorem rows_nil : rows e size (.slice none 0 0) 0 [] = fun _ => True := by
  funext h
  simp [rows]
theorem At.rows_nil (H : At w0 L w) (e : TypeId) (size : Nat) : At w0 (rows e size (.slice none 0 0) 0 [] :: L) w := by
  rw [Hg.rows_nil]
  exact H.mk_fact (p := True) trivial
theorem At.rows_length (H : At w0 (rows e size v n xs :: L) w) : xs.length = n * size := H.tells fun _ p => p.1
/-- What is known of the value of such a slice. -/
theorem At.rows_value (H : At w0 (rows e size v n xs :: L) w) : (v = .slice none 0 0 ∧ n = 0 ∧ xs = []) ∨
    ∃ g off cap, v = .slice (some ⟨g, off, none⟩) n cap ∧ n ≤ cap ∧ cap ≤ maxLen ∧ ∀ j, j < n * size → w.cell? ⟨g, off + j, none⟩ = xs[j]? := by
  obtain ⟨hb, h, ⟨h1, h2, ⟨hl, p⟩, q, d, l1, l2⟩, s, u⟩ := H
  rcases p with ⟨rfl, rfl⟩ | ⟨g, off, cap, cur, rfl, hg, hn, hc, hs, ht⟩
  · exact .inl ⟨rfl, rfl, List.eq_nil_of_length_eq_zero (by simpa using hl)⟩
  · refine .inr ⟨g, off, cap, rfl, hn, hc, fun j hj => ?_⟩
    rw [raw_cell (s g _ (l1 g _ hg)) (off + j), ← ht, List.getElem?_take, if_pos hj, List.getElem?_drop]
    simp
theorem At.rows_one (H : At w0 (rows e size v n xs :: L) w) : v.oneCell' = true := by
  rcases H.rows_value with ⟨rfl, _⟩ | ⟨_, _, _, rfl, _⟩ <;> rfl
theorem At.rows_slice (H : At w0 (rows e size v n xs :: L) w) : ∃ a c, v = .slice a n c := by
  rcases H.rows_value with ⟨rfl, rfl, _⟩ | ⟨_, _, _, rfl, _⟩
  · exact ⟨_, _, rfl⟩
  · exact ⟨_, _, rfl⟩
/-- A new block of cells, as a slice. -/
theorem At.rows_new {b : Nat} {cur : Array Value} {cap : Nat} (H : At w0 (raw b cur e :: L) w) (hn : n ≤ cap) (hc : cap ≤ maxLen) (hs : cap * size ≤ cur.size) (hx : cur.toList.take (n * size) = xs) :
    At w0 (rows e size (.slice (some ⟨b, 0, none⟩) n cap) n xs :: L) w := by
  refine H.imp1 fun h p => ⟨?_, .inr ⟨b, 0, cap, cur, rfl, p, hn, hc, by omega, by simpa using hx⟩⟩
  rw [← hx, List.length_take, Array.length_toList]
  have := Nat.mul_le_mul_right size hn
  omega

/-- The first ones of such a slice, with no room behind them or with some. -/
theorem At.rows_take {g off cap q c : Nat} (H : At w0 (rows e size (.slice (some ⟨g, off, none⟩) n cap) n xs :: L) w) (hq : q ≤ n) (hqc : q ≤ c) (hc : c ≤ cap) : At w0 (rows e size (.slice (some ⟨g, off, none⟩) q c) q (xs.take (q * size)) :: L) w := by
  refine H.imp1 fun h p => ?_
  obtain ⟨hl, p⟩ := p
  rcases p with ⟨hv, _⟩ | ⟨g', off', cap', cur, hv, hg, hn, hm, hs, hx⟩
  · cases hv
  · cases hv
    have h1 := Nat.mul_le_mul_right size hq
    have h2 := Nat.mul_le_mul_right size hc
    refine ⟨by rw [List.length_take]; omega, .inr ⟨g, off, c, cur, rfl, hg, hqc, by omega, by omega, ?_⟩⟩
    rw [← hx, List.take_take, Nat.min_eq_left h1]
/-- The last ones of such a slice. -/
theorem At.rows_drop {g off cap q : Nat} (H : At w0 (rows e size (.slice (some ⟨g, off, none⟩) n cap) n xs :: L) w) (hq : q ≤ n) : At w0 (rows e size (.slice (some ⟨g, off + q * size, none⟩) (n - q) (cap - q)) (n - q) (xs.drop (q * size)) :: L) w := by
  refine H.imp1 fun h p => ?_
  obtain ⟨hl, p⟩ := p
  rcases p with ⟨hv, _⟩ | ⟨g', off', cap', cur, hv, hg, hn, hm, hs, hx⟩
  · cases hv
  · cases hv
    have h1 := Nat.mul_le_mul_right size hq
    have h2 := Nat.mul_le_mul_right size (Nat.le_trans hq hn)
    have e1 : (n - q) * size = n * size - q * size := Nat.sub_mul _ _ _
    have e2 : (cap - q) * size = cap * size - q * size := Nat.sub_mul _ _ _
    refine ⟨by rw [List.length_drop]; omega, .inr ⟨g, off + q * size, cap - q, cur, rfl, hg, by omega, by omega, by omega, ?_⟩⟩
    rw [← hx, List.drop_take, List.drop_drop, e1]
/-- No elements, no room: whatever the place. -/
theorem At.rows_none {g off : Nat} {xs : List Value} {n cap : Nat} (H : At w0 (rows e size (.slice (some ⟨g, off, none⟩) n cap) n xs :: L) w) : At w0 (rows e size (.slice (some ⟨g, off, none⟩) 0 0) 0 [] :: L) w := by
  simpa using H.rows_take (q := 0) (c := 0) (Nat.zero_le _) (Nat.zero_le _) (Nat.zero_le _)
/-- The owned block is written as a whole. -/
theorem At.rows_upd {g off cap n' : Nat} {cur cur' : Array Value} {xs' : List Value} (H : At w0 (rows e size (.slice (some ⟨g, off, none⟩) n cap) n xs :: L) w) (hg : w.heap[g]? = some (.cells cur e (0, 0))) (hn : n' ≤ cap) (hc : cap ≤ maxLen)
    (hs : off + cap * size ≤ cur'.size) (hl : xs'.length = n' * size) (hx : (cur'.toList.drop off).take (n' * size) = xs') : At w0 (rows e size (.slice (some ⟨g, off, none⟩) n' cap) n' xs' :: L) (w.setRow g cur') := by
  have hbase : w0.heap.size ≤ g := by
    obtain ⟨hb, h, ⟨h1, h2, ⟨_, p⟩, q, d, l1, l2⟩, s, u⟩ := H
    rcases p with ⟨hv, _⟩ | ⟨g', off', cap', cur0, hv, hg', _⟩
    · cases hv
    · cases hv
      exact u g (by rw [l1 g _ hg']; simp)
  refine H.step (fun b hlt => setRow_other w g b _ (fun e => by omega)) rfl rfl rfl (by simp) ?_
  intro h p _ _
  have hh : h g ≠ none := by
    rcases p.2 with ⟨hv, _⟩ | ⟨g', off', cap', cur0, hv, hg', _⟩
    · cases hv
    · cases hv
      rw [hg']; simp
  refine ⟨fun k => if k = g then some (.cells cur' e (0, 0)) else none, ⟨hl, .inr ⟨g, off, cap, cur', rfl, by simp, hn, hc, hs, hx⟩⟩, ?_, ?_, ?_⟩
  · intro k x e'
    by_cases hk : k = g
    · subst hk; simp at e'; subst e'; exact setRow_heap w k cur _ e _ hg
    · simp [hk] at e'
  · intro k e'
    by_cases hk : k = g
    · subst hk; exact .inl hh
    · simp [hk] at e'
  · intro k _ e'
    exact setRow_other w g k _ (fun e2 => by subst e2; exact hh e')

/-- What append takes from: m elements whose cells are news. -/
structure Src (P : Program) (size : Nat) (w : World) (x : Value) (m : Nat) (news : List Value) : Prop where
  len : ∀ wx : World, (Builtin.lenOf x).run P wx = .ok m wx
  length : news.length = m * size
  cells : ∀ wx : World, Below w.heap.size w wx → (Builtin.firstCells size m x).run P wx = .ok news.toArray wx
  one : ∀ u ∈ news, u.oneCell' = true
theorem Src.some {P : Program} {a : Addr} {m c : Nat} {news : List Value} (hl : news.length = m * size) (hc : ∀ j u, news[j]? = some u → w.cell? (a.add j) = some u) (h1 : ∀ u ∈ news, u.oneCell' = true) : Src P size w (.slice (some a) m c) m news :=
  ⟨fun wx => by simp [Builtin.lenOf], hl, fun wx hw => run_firstCells_some wx size m a m c news hl (fun j u h => by
    have := hc j u h
    rw [hw.cell (World.block_lt_of_cell? w _ this)]
    exact this), h1⟩
theorem Src.none {P : Program} {c : Nat} : Src P size w (.slice none 0 c) 0 [] :=
  ⟨fun wx => by simp [Builtin.lenOf], by simp, fun wx _ => by simp [Builtin.firstCells], by simp⟩
theorem Src.string {P : Program} (s : ByteArray) : Src P 1 w (.string s) s.size (s.data.toList.map fun b => Value.int .u8 b.toNat) := by
  refine ⟨fun wx => by simp [Builtin.lenOf], by simp, fun wx _ => ?_, ?_⟩
  · simp only [Builtin.firstCells]
    have : s.extract 0 s.size = s := by simp
    rw [this]
    have e2 : Array.map (fun b => Value.int IntKind.u8 ↑(UInt8.toNat b)) s.data = (List.map (fun b => Value.int IntKind.u8 ↑(UInt8.toNat b)) s.data.toList).toArray := by
      apply Array.ext'
      simp
    rw [e2]
    rfl
  · intro u hu
    simp at hu
    obtain ⟨b, _, rfl⟩ := hu
    rfl
/-- It stays what it is while nothing that was there turns. -/
theorem Src.later {P : Program} {w' : World} {x : Value} {m : Nat} {news : List Value} (h : Src P size w x m news) (g : Below w.heap.size w w') : Src P size w' x m news :=
  ⟨h.len, h.length, fun wx hw => h.cells wx (g.trans (hw.mono g.size)), h.one⟩
theorem Src.length_le {P : Program} {x : Value} {m : Nat} {news : List Value} (h : Src P size w x m news) : news.length = m * size := h.length

/-- The second type of an append: a slice, or a string. -/
def SrcType (P : Program) (t2 : TypeId) : Prop := (∃ e2, P.underlying t2 = some (.slice e2)) ∨ P.underlying t2 = some .string

theorem append_stay {P : Program} {base : Option Addr} {sLen sCap : Nat} (t t2 ty e : TypeId) (i : TypeInfo) (ht : P.underlying t = some (.slice e)) (ht2 : SrcType P t2) (hi : P.info? e = some i)
    {x : Value} {m : Nat} {news : List Value} (hx : Src P i.size w x m news) (hroom : sLen + m ≤ sCap) {w' : World}
    (hst : ∀ a, base = some a → (storeCells (a.add (sLen * i.size)) news).run P w = .ok () w') (hno : base = none → w' = w) :
    (Builtin.append_ #[t, t2] ty #[.slice base sLen sCap, x]).run P w = .ok (.slice base (sLen + m) sCap) w' := by
  have hf := hx.cells w (Below.refl _ _)
  cases base with
  | none =>
    have := hno rfl
    subst this
    rcases ht2 with ⟨e2, ht2⟩ | ht2 <;> simp [Builtin.append_, run_underlying ht, run_underlying ht2, sizeOf, typeInfo, hi, hx.len, hroom, hf]
  | some a =>
    have h2 := hst a rfl
    rcases ht2 with ⟨e2, ht2⟩ | ht2 <;> simp [Builtin.append_, run_underlying ht, run_underlying ht2, sizeOf, typeInfo, hi, hx.len, hroom, hf, h2]

theorem append_grow {P : Program} {base : Option Addr} {sLen sCap : Nat} (t t2 ty e : TypeId) (i : TypeInfo) (z : Value) (ht : P.underlying t = some (.slice e)) (ht2 : SrcType P t2) (hi : P.info? e = some i) (hz : i.zero = some z)
    {x : Value} {m : Nat} {news olds : List Value} (hx : Src P i.size w x m news) (hroom : sCap < sLen + m) (h63 : sLen + m ≤ 9223372036854775807) (hfit : Builtin.nextslicecap (sLen + m) sCap * i.bytes ≤ 281474976710656)
    (hold : ∀ wx : World, wx.heap = w.heap → (Builtin.firstCells i.size sLen (.slice base sLen sCap)).run P wx = .ok olds.toArray wx) :
    (Builtin.append_ #[t, t2] ty #[.slice base sLen sCap, x]).run P w = .ok (.slice (some ⟨w.heap.size, 0, none⟩) (sLen + m) (grownCap w (sLen + m) sCap e))
      (w.drew.alloc (.cells (olds.toArray ++ news.toArray ++ Builtin.zeroCells z.cells (grownCap w (sLen + m) sCap e - (sLen + m))) e)) := by
  have hf := hx.cells w.drew (Below.refl _ w).drew
  have ho := hold w.drew rfl
  have hn : ¬ (sLen + m ≤ sCap) := by omega
  have h63' : ¬ (9223372036854775807 < ((sLen : Int) + (m : Int))) := by omega
  have h48' : ¬ (281474976710656 < Builtin.nextslicecap (sLen + m) sCap * i.bytes) := by omega
  rcases ht2 with ⟨e2, ht2⟩ | ht2
  · simp [Builtin.append_, run_underlying ht, run_underlying ht2, sizeOf, typeInfo, zeroValue, hi, hz, hx.len, hn, h63', h48', Question.forced, hf, ho, newRow, grownCap]
    congr 2
    apply Array.ext'
    simp [List.append_assoc]
  · simp [Builtin.append_, run_underlying ht, run_underlying ht2, sizeOf, typeInfo, zeroValue, hi, hz, hx.len, hn, h63', h48', Question.forced, hf, ho, newRow, grownCap]
    congr 2
    apply Array.ext'
    simp [List.append_assoc]

theorem run_append_sl {P : Program} (H : At w0 (rows e size v n xs :: L) w) (t t2 ty : TypeId) (i : TypeInfo) (z : Value) (bytes : Nat) (ht : P.underlying t = some (.slice e)) (ht2 : SrcType P t2)
    (hi : P.info? e = some i) (hz : i.zero = some z) (hsize : i.size = size) (hby : i.bytes = bytes) (hzs : z.cells.size = size)
    {x : Value} {m : Nat} {news : List Value} (hx : Src P size w x m news) (h63 : n + m ≤ maxLen) (hbytes : (n + m) * bytes ≤ 140737488355328) :
    ∃ v' w', (Builtin.append_ #[t, t2] ty #[v, x]).run P w = .ok v' w' ∧ At w0 (rows e size v' (n + m) (xs ++ news) :: L) w' ∧ (v' = .slice none 0 0 ↔ v = .slice none 0 0 ∧ m = 0) := by
  subst hsize
  subst hby
  have hsmall : n + m ≤ 9223372036854775807 := by simp only [maxLen] at h63; omega
  have hxl := H.rows_length
  have hnl := hx.length
  have hlen : (xs ++ news).length = (n + m) * i.size := by rw [List.length_append, hxl, hnl, Nat.add_mul]
  have grown : ∀ (old : Nat), old < n + m → At w0 (rows e i.size (.slice (some ⟨w.heap.size, 0, none⟩) (n + m) (grownCap w (n + m) old e)) (n + m) (xs ++ news) :: L)
      (w.drew.alloc (.cells (xs.toArray ++ news.toArray ++ Builtin.zeroCells z.cells (grownCap w (n + m) old e - (n + m))) e)) := by
    intro old ho
    have hge := grownCap_ge w (n + m) old e
    have hcm : grownCap w (n + m) old e ≤ maxLen := grownCap_le_maxLen w (n + m) old e h63
    have H2 := (H.tail.drew.alloc (.cells (xs.toArray ++ news.toArray ++ Builtin.zeroCells z.cells (grownCap w (n + m) old e - (n + m))) e))
    refine At.rows_new (b := w.heap.size) H2 hge hcm ?_ ?_
    · simp only [Array.size_append, List.size_toArray, size_zeroCells, hzs, hxl, hnl, ← Nat.add_mul]
      exact Nat.le_of_eq (by congr 1; omega)
    · simp only [Array.toList_append, List.append_assoc]
      rw [← List.append_assoc, ← hlen]
      exact List.take_left
  have H0 := H
  obtain ⟨hb, h, ⟨h1, h2, ⟨_, p⟩, q, d, l1, l2⟩, s, u⟩ := H
  rcases p with ⟨rfl, rfl⟩ | ⟨g, off, cap, cur, rfl, hg, hnc, hcm, hcs, htake⟩
  · have hx0 : xs = [] := List.eq_nil_of_length_eq_zero (by simpa using hxl)
    subst hx0
    by_cases hm : m = 0
    · subst hm
      have hn0 : news = [] := List.eq_nil_of_length_eq_zero (by simpa using hnl)
      subst hn0
      refine ⟨_, w, append_stay t t2 ty e i ht ht2 hi hx (by omega) (by simp) (fun _ => rfl), ?_, by simp⟩
      rw [show rows e i.size (.slice none (0 + 0) 0) (0 + 0) ([] ++ []) = fun _ => True from by simpa using rows_nil]
      exact ⟨hb, h, ⟨h1, h2, trivial, q, d, l1, l2⟩, s, u⟩
    · refine ⟨_, _, append_grow t t2 ty e i z ht ht2 hi hz (olds := []) hx (by omega) (by omega) ?_ (fun wx _ => by simp [Builtin.firstCells]), ?_, by simp [hm]⟩
      · exact growslice_fits (by omega) hbytes
      · have := grown 0 (by omega)
        simpa using this
  · have hheap : w.heap[g]? = some (.cells cur e (0, 0)) := s g _ (l1 g _ hg)
    have hadd : ∀ k, (⟨g, off, none⟩ : Addr).add k = ⟨g, off + k, none⟩ := fun k => Addr.add_lit g off k
    have hxl2 : n * i.size ≤ cap * i.size := Nat.mul_le_mul_right _ hnc
    by_cases hroom : n + m ≤ cap
    · have hfit : off + n * i.size + news.length ≤ cur.size := by
        have := Nat.mul_le_mul_right i.size hroom
        rw [Nat.add_mul] at this
        omega
      have hst := run_storeCells_at P g (off + n * i.size) e news 0 cur w hheap (by omega) hx.one
      simp only [Nat.add_zero] at hst
      refine ⟨_, _, append_stay t t2 ty e i ht ht2 hi hx hroom (fun a ha => by cases ha; rw [hadd]; exact hst) (fun e => nomatch e), ?_, by simp⟩
      refine H0.rows_upd hheap hroom hcm ?_ hlen ?_
      · simp only [List.size_toArray, List.length_append, List.length_take, List.length_drop, Array.length_toList]
        omega
      · have e1 : (List.take (off + n * i.size) cur.toList).drop off = xs := by
          rw [← htake, List.take_drop]
        have e2 : (List.take (off + n * i.size) cur.toList).length = off + n * i.size := by
          rw [List.length_take, Array.length_toList]; omega
        rw [List.append_assoc, List.drop_append_of_le_length (by omega), e1, ← List.append_assoc, ← hlen]
        exact List.take_left
    · have holds : ∀ j u, xs[j]? = some u → w.cell? ((⟨g, off, none⟩ : Addr).add j) = some u := by
        intro j u hu
        rw [hadd, raw_cell hheap]
        rw [← htake, List.getElem?_take] at hu
        split at hu
        · rw [List.getElem?_drop] at hu
          simpa using hu
        · cases hu
      refine ⟨_, _, append_grow t t2 ty e i z ht ht2 hi hz (olds := xs) hx (by omega) (by omega) (growslice_fits (by omega) hbytes) (fun wx hw => run_firstCells_some wx i.size n ⟨g, off, none⟩ n cap xs hxl (fun j u h => by have := holds j u h; simpa [World.cell?, hw] using this)), grown cap (by omega), by simp⟩

/-- The operation: append onto a slice that is owned. -/
theorem wp_append_sl {P : Program} {o : Oper} {a : Act} {K : Act → World → Prop} {Q : Exit → Act → World → Prop} (s xo : Operand) (t t2 : TypeId)
    (ho : o.op = .call { callee := .builtin .append, args := #[s, xo], argTypes := #[t, t2] })
    (i : TypeInfo) (z : Value) (bytes : Nat) (ht : P.underlying t = some (.slice e)) (ht2 : SrcType P t2) (hi : P.info? e = some i) (hz : i.zero = some z)
    (hsize : i.size = size) (hby : i.bytes = bytes) (hzs : z.cells.size = size) (hs : a.eval s = v) (H : At w0 (rows e size v n xs :: L) w)
    {x : Value} {m : Nat} {news : List Value} (hxo : a.eval xo = x) (hx : Src P size w x m news) (h63 : n + m ≤ maxLen) (hbytes : (n + m) * bytes ≤ 140737488355328)
    (h : ∀ v' w', At w0 (rows e size v' (n + m) (xs ++ news) :: L) w' → (v' = .slice none 0 0 ↔ v = .slice none 0 0 ∧ m = 0) → K (a.put o.dst v') w') : o.wp P a w K Q := by
  obtain ⟨v', w', hr, h2, h3⟩ := run_append_sl H t t2 o.type i z bytes ht ht2 hi hz hsize hby hzs hx h63 hbytes
  unfold Oper.wp execOp
  simp only [ho, resolve, invoke, builtin, Sem.run_bind, Sem.run_pure, Result.andThen_ok, List.map_toArray, List.map_cons, List.map_nil, hs, hxo, hr]
  exact h v' w' h2 h3
theorem wpList_append_sl {P : Program} {ops : Array Oper} {rest : List Oper} {o : Oper} {a : Act} {Q : Exit → Act → World → Prop} (hgd : o.guard = none) (s xo : Operand) (t t2 : TypeId)
    (ho : o.op = .call { callee := .builtin .append, args := #[s, xo], argTypes := #[t, t2] })
    (i : TypeInfo) (z : Value) (bytes : Nat) (ht : P.underlying t = some (.slice e)) (ht2 : SrcType P t2) (hi : P.info? e = some i) (hz : i.zero = some z)
    (hsize : i.size = size) (hby : i.bytes = bytes) (hzs : z.cells.size = size) (hs : a.eval s = v) (H : At w0 (rows e size v n xs :: L) w)
    {x : Value} {m : Nat} {news : List Value} (hxo : a.eval xo = x) (hx : Src P size w x m news) (h63 : n + m ≤ maxLen) (hbytes : (n + m) * bytes ≤ 140737488355328)
    (h : ∀ v' w', At w0 (rows e size v' (n + m) (xs ++ news) :: L) w' → (v' = .slice none 0 0 ↔ v = .slice none 0 0 ∧ m = 0) → wpList P ops Q rest (a.put o.dst v') w') : wpList P ops Q (o :: rest) a w :=
  wpList_plain hgd fun _ hK => wp_append_sl s xo t t2 ho i z bytes ht ht2 hi hz hsize hby hzs hs H hxo hx h63 hbytes fun v' w' h2 h3 => hK _ _ (h v' w' h2 h3)
end rows

/-! ### A slice that is written out; a store -/
theorem foldl_fill (off : Nat) : ∀ (vs : List Value) (k : Nat) (cells : Array Value), off + k + vs.length ≤ cells.size →
    ((vs.zipIdx k).foldl (fun cs (x : Value × Nat) => cs.setIfInBounds (off + x.2) x.1) cells).toList = cells.toList.take (off + k) ++ vs ++ cells.toList.drop (off + k + vs.length) := by
  intro vs
  induction vs with
  | nil => intro k cells h; simp
  | cons v vs ih =>
    intro k cells h
    simp only [List.length_cons] at h
    simp only [List.zipIdx_cons, List.foldl_cons]
    rw [ih (k + 1) _ (by simp; omega)]
    apply List.ext_getElem?
    intro j
    simp only [Array.toList_setIfInBounds, List.getElem?_append, List.getElem?_take, List.getElem?_drop, List.getElem?_set, List.length_append, List.length_take, List.length_set, List.length_cons, Array.length_toList, List.getElem?_cons]
    repeat' split
    all_goals first | rfl | omega | (congr 1; omega) | skip
theorem fill_whole (place : Nat → Option (Nat × Nat)) (cells : Array Value) (v : Value) (h : place 0 = some (0, cells.size)) (hv : v.cells.size = cells.size) : Instr.fill place cells [(0, v)] = some v.cells := by
  have e := foldl_fill 0 v.cells.toList 0 cells (by simp; omega)
  unfold Instr.fill
  rw [h]
  simp only [Instr.fill, hv, Nat.zero_add]
  rw [if_neg (by simp)]
  congr 1
  apply Array.ext'
  simp only [Nat.zero_add, List.take_zero, List.nil_append] at e
  rw [List.drop_of_length_le (by simp [hv])] at e
  rw [← Array.foldl_toList]
  simpa using e
theorem run_buildSlice_one {P : Program} {t e : TypeId} {i : TypeInfo} {z : Value} (ht : P.underlying t = some (.slice e)) (hi : P.info? e = some i) (hz : i.zero = some z) (hzs : z.cells.size = i.size) (v : Value) (hv : v.cells.size = i.size) (h0 : i.size ≠ 0) (hmax : i.size ≤ 16777216) (w : World) :
    (Instr.buildSlice t 1 #[(0, v)]).run P w = .ok (.slice (some ⟨w.heap.size, 0, none⟩) 1 1) (w.alloc (.cells v.cells e)) := by
  have hs : ((Array.range (1 * i.size)).map (z.cells[· % z.cells.size]!)).size = i.size := by simp
  have hf := fill_whole (fun k => some (k * i.size, i.size)) ((Array.range (1 * i.size)).map (z.cells[· % z.cells.size]!)) v (by simp) (by simp [hv])
  have hm : ¬ (1 * i.size > 2 ^ 24) := by omega
  have hn : ¬ (1 * i.size = 0) := by omega
  simp only [Instr.buildSlice, Sem.run_bind, run_underlying ht, Result.andThen_ok, sizeOf, typeInfo, zeroValue]
  simp [hi, hz, Sem.run_pure]
  rw [if_neg (by omega), if_neg h0]
  simp only [Nat.one_mul] at hf
  rw [hf]
  simp [newRow]
theorem run_buildSlice_none {P : Program} {t e : TypeId} {i : TypeInfo} (ht : P.underlying t = some (.slice e)) (hi : P.info? e = some i) (w : World) :
    (Instr.buildSlice t 0 #[]).run P w = .ok (.slice (some ⟨w.heap.size, 0, none⟩) 0 0) (w.alloc (.cells #[] e)) := by
  simp [Instr.buildSlice, run_underlying ht, sizeOf, typeInfo, hi, Instr.fill, newRow]
  have : (Array.map (fun _ => (default : Value)) (Array.range 0)) = #[] := Array.eq_empty_of_size_eq_zero (by simp)
  rw [this]
/-- The operation: a slice of one element. -/
theorem wp_buildSlice_one {P : Program} {o : Oper} {a : Act} {w : World} {K : Act → World → Prop} {Q : Exit → Act → World → Prop} (t : TypeId) (x : Operand) (ho : o.op = .buildSlice t 1 #[(0, x)])
    {e : TypeId} {i : TypeInfo} {z v : Value} (ht : P.underlying t = some (.slice e)) (hi : P.info? e = some i) (hz : i.zero = some z) (hzs : z.cells.size = i.size) (hx : a.eval x = v) (hv : v.cells.size = i.size) (h0 : i.size ≠ 0) (hmax : i.size ≤ 16777216)
    (h : K (a.put o.dst (.slice (some ⟨w.heap.size, 0, none⟩) 1 1)) (w.alloc (.cells v.cells e))) : o.wp P a w K Q := by
  unfold Oper.wp execOp
  simp only [ho, List.map_toArray, List.map_cons, List.map_nil, hx, Sem.run_bind, run_buildSlice_one ht hi hz hzs v hv h0 hmax, Result.andThen_ok, Sem.run_pure]
  exact h
theorem wp_buildSlice_none {P : Program} {o : Oper} {a : Act} {w : World} {K : Act → World → Prop} {Q : Exit → Act → World → Prop} (t : TypeId) (ho : o.op = .buildSlice t 0 #[])
    {e : TypeId} {i : TypeInfo} (ht : P.underlying t = some (.slice e)) (hi : P.info? e = some i)
    (h : K (a.put o.dst (.slice (some ⟨w.heap.size, 0, none⟩) 0 0)) (w.alloc (.cells #[] e))) : o.wp P a w K Q := by
  unfold Oper.wp execOp
  simp only [ho, List.map_toArray, List.map_nil, Sem.run_bind, run_buildSlice_none ht hi, Result.andThen_ok, Sem.run_pure]
  exact h
/-- A row's facts, taken apart. -/
theorem info_of {P : Program} {e : TypeId} {z : Value} {n b : Nat} (h : (P.info? e).map (fun i => (i.zero, i.size, i.bytes)) = some (some z, n, b)) : ∃ i, P.info? e = some i ∧ i.zero = some z ∧ i.size = n ∧ i.bytes = b := by
  cases hq : P.info? e with
  | none => simp [hq] at h
  | some i => simp [hq] at h; exact ⟨i, rfl, h.1, h.2.1, h.2.2⟩
/-- The operation: a variable of one cell is written. -/
theorem wp_store_cell {P : Program} {o : Oper} {a : Act} {w : World} {K : Act → World → Prop} {Q : Exit → Act → World → Prop} (ty : TypeId) (x y : Operand) (ho : o.op = .store ty x y) {p : Addr} {v u : Value}
    (hx : a.eval x = .pointer (some p)) (hy : a.eval y = v) (hi : (P.info? ty).map (·.size) = some 1) (h1 : v.oneCell' = true) (hc : w.cell? p = some u) (hf : w.frozen? p = false)
    (h : K (a.put o.dst undef) (w.setCell p v)) : o.wp P a w K Q := by
  unfold Oper.wp execOp
  cases hq : P.info? ty with
  | none => simp [hq] at hi
  | some i =>
    have hs : i.size = 1 := by simpa [hq] using hi
    have hst := run_store P w p v .plain h1
    have hcs : v.cells = #[v] := by cases v <;> first | rfl | simp [Value.oneCell'] at h1
    have hadd : p.add 0 = p := by simp [Addr.add]
    simp only [ho, Instr.storeAt, hx, hy, Instr.sureAddr, storeVar, sizeOf, typeInfo, Sem.run_bind, Sem.run_pure, Result.andThen_ok]
    simp [hq, hs, hcs, storeCells, hadd, hst, hc, hf]
    exact h
attribute [irreducible] rows one
end Go.Hg
