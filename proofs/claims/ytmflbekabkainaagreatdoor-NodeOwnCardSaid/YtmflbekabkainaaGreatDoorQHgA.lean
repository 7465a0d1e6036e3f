import Derived.WalkKit
import Derived.WalkSpells
import Derived.WalkLawsBesides
import Derived.Deep.MidRow
import Derived.Deep.WholeRow
import Derived.Deep.OwnRows
import Derived.Lib.Hide
import Derived.OrdersHeld
import Derived.Deep.QuietTactic
import Derived.BigQuiet
import Derived.Stop.BytesEq
import Derived.IntWalk
import Derived.ProofKit
import Derived.OpenShut
import Derived.ShutString
import Derived.ChangeOld
import Derived.Below
import Derived.Deep.Slices
import Derived.Laws.BytesArg
set_option linter.unusedVariables false
set_option linter.unusedSimpArgs false
namespace Go.Hg
open Go.RowKit
abbrev Hp := Nat → Option Obj
abbrev SP := Hp → Prop
def Hp.dj (h k : Hp) : Prop := ∀ b, h b = none ∨ k b = none
def Hp.le (h k : Hp) : Prop := ∀ b o, h b = some o → k b = some o
def Hp.jn (h k : Hp) : Hp := fun b => match h b with | some o => some o | none => k b
def sep (P Q : SP) : SP := fun h => ∃ h1 h2, P h1 ∧ Q h2 ∧ h1.dj h2 ∧ h1.le h ∧ h2.le h
def seps : List SP → SP
 | [] => fun _ => True
 | P :: L => sep P (seps L)
def sat (w : World) (h : Hp) : Prop := ∀ b o, h b = some o → w.heap[b]? = some o
def one (b : Nat) (o : Obj) : SP := fun h => h b = some o
abbrev raw (b : Nat) (cs : Array Value) (t : TypeId) : SP := one b (.cells cs t (0, 0))
def fact (p : Prop) : SP := fun _ => p
def ex {α : Type} (P : α → SP) : SP := fun h => ∃ x, P x h
structure At (w0 : World) (L : List SP) (w : World) : Prop where
 below : Below w0.heap.size w0 w
 own : ∃ h, seps L h ∧ sat w h ∧ ∀ b, h b ≠ none → w0.heap.size ≤ b
section algebra
variable {P Q R P' Q' : SP} {h k : Hp} {L L' : List SP}
theorem Hp.le_refl (h : Hp) : h.le h := fun _ _ e => e
theorem Hp.le_trans {a b c : Hp} (x : a.le b) (y : b.le c) : a.le c := fun _ _ e => y _ _ (x _ _ e)
theorem dj_symm (d : h.dj k) : k.dj h := fun b => (d b).symm
theorem dj_le {h' k' : Hp} (d : h.dj k) (x : h'.le h) (y : k'.le k) : h'.dj k' := fun b => by
 cases e : h' b with
 | none => exact .inl rfl
 | some o =>
  cases f : k' b with
  | none => exact .inr rfl
  | some p =>
   have := x _ _ e
   have := y _ _ f
   rcases d b with g | g <;> simp_all
theorem le_jn_l : h.le (h.jn k) := fun b o e => by simp [Hp.jn, e]
theorem le_jn_r (d : h.dj k) : k.le (h.jn k) := fun b o e => by
 rcases d b with f | f <;> simp_all [Hp.jn]
theorem jn_le {l : Hp} (x : h.le l) (y : k.le l) : (h.jn k).le l := fun b o e => by
 unfold Hp.jn at e
 cases f : h b with
 | none => simp [f] at e; exact y _ _ e
 | some p => simp [f] at e; subst e; exact x _ _ f
theorem dj_jn {a : Hp} (x : a.dj h) (y : a.dj k) : a.dj (h.jn k) := fun b => by
 rcases x b with e | e
 · exact .inl e
 · rcases y b with f | f
   · exact .inl f
   · exact .inr (by simp [Hp.jn, e, f])
theorem sep_up (H : sep P Q h) (x : h.le k) : sep P Q k := by
 obtain ⟨h1, h2, p, q, d, a, b⟩ := H
 exact ⟨h1, h2, p, q, d, Hp.le_trans a x, Hp.le_trans b x⟩
theorem seps_up (H : seps L h) (x : h.le k) : seps L k := by
 cases L with
 | nil => trivial
 | cons P L => exact sep_up H x
theorem sep_mono (H : sep P Q h) (hp : ∀ h, P h → P' h) (hq : ∀ h, Q h → Q' h) : sep P' Q' h := by
 obtain ⟨h1, h2, p, q, r⟩ := H
 exact ⟨h1, h2, hp _ p, hq _ q, r⟩
theorem sep_swap (H : sep P (sep Q R) h) : sep Q (sep P R) h := by
 obtain ⟨h1, hr, p, ⟨h2, h3, q, r, d23, l2, l3⟩, d, la, lb⟩ := H
 have d12 : h1.dj h2 := dj_le d (Hp.le_refl _) l2
 have d13 : h1.dj h3 := dj_le d (Hp.le_refl _) l3
 exact ⟨h2, h1.jn h3, q, ⟨h1, h3, p, r, d13, le_jn_l, le_jn_r d13⟩, dj_jn (dj_symm d12) d23, Hp.le_trans l2 lb, jn_le la (Hp.le_trans l3 lb)⟩
theorem seps_perm (hp : L.Perm L') : ∀ h, seps L h → seps L' h := by
 induction hp with
 | nil => exact fun h H => H
 | cons P _ ih => exact fun h H => sep_mono H (fun _ p => p) ih
 | swap P Q L => exact fun h H => sep_swap H
 | trans _ _ ih1 ih2 => exact fun h H => ih2 h (ih1 h H)
theorem sep_tail (H : sep P (seps L) h) : seps L h := by
 obtain ⟨h1, h2, _, q, _, _, b⟩ := H
 exact seps_up q b
theorem seps_split : ∀ (L : List SP) (h : Hp), seps (L ++ L') h → sep (seps L) (seps L') h := by
 intro L
 induction L with
 | nil => exact fun h H => ⟨fun _ => none, h, trivial, H, fun _ => .inl rfl, fun _ _ e => (nomatch e), Hp.le_refl _⟩
 | cons P L ih =>
  intro h H
  obtain ⟨h1, hr, p, q, d, la, lb⟩ := H
  obtain ⟨h2, h3, q2, q3, d23, l2, l3⟩ := ih _ q
  have d12 : h1.dj h2 := dj_le d (Hp.le_refl _) l2
  have d13 : h1.dj h3 := dj_le d (Hp.le_refl _) l3
  exact ⟨h1.jn h2, h3, ⟨h1, h2, p, q2, d12, le_jn_l, le_jn_r d12⟩, q3, dj_symm (dj_jn (dj_symm d13) (dj_symm d23)), jn_le la (Hp.le_trans l2 lb), Hp.le_trans l3 lb⟩
theorem seps_join : ∀ (L : List SP) (h : Hp), sep (seps L) (seps L') h → seps (L ++ L') h := by
 intro L
 induction L with
 | nil => intro h H; exact sep_tail H
 | cons P L ih =>
  intro h H
  obtain ⟨h1, h2, ⟨a, b, p, q, d, la, lb⟩, r, d', lc, ld⟩ := H
  have dbr : b.dj h2 := dj_le d' lb (Hp.le_refl _)
  have dar : a.dj h2 := dj_le d' la (Hp.le_refl _)
  exact ⟨a, b.jn h2, p, ih _ ⟨b, h2, q, r, dbr, le_jn_l, le_jn_r dbr⟩, dj_jn d dar, Hp.le_trans la lc, jn_le (Hp.le_trans lb lc) ld⟩
end algebra
theorem perm_erase : ∀ (L : List SP) (i : Nat) (P : SP), L[i]? = some P → (P :: L.eraseIdx i).Perm L
 | [], i, P, h => by simp at h
 | Q :: L, 0, P, h => by simp at h; subst h; simp
 | Q :: L, i + 1, P, h => by
  simp at h
  exact (List.Perm.swap Q P _).trans ((perm_erase L i P h).cons Q)
section at_
variable {w0 w w' : World} {P Q : SP} {L L' A : List SP}
theorem sat.lt {h : Hp} (s : sat w h) {b : Nat} (hb : h b ≠ none) : b < w.heap.size := by
 cases hh : h b with
 | none => exact absurd hh hb
 | some o => exact (Array.getElem?_eq_some_iff.1 (s b o hh)).1
theorem At.start (w : World) : At w [] w := ⟨Below.refl _ _, fun _ => none, trivial, fun _ _ e => (nomatch e), fun _ e => absurd rfl e⟩
theorem At.imp (H : At w0 L w) (f : ∀ h, seps L h → seps L' h) : At w0 L' w := by
 obtain ⟨b, h, s, t, u⟩ := H
 exact ⟨b, h, f h s, t, u⟩
theorem At.perm (H : At w0 L w) (p : L.Perm L') : At w0 L' w := H.imp (seps_perm p)
theorem At.pull (H : At w0 L w) (i : Nat) (hi : L[i]? = some P) : At w0 (P :: L.eraseIdx i) w := by
 exact H.perm (perm_erase L i P hi).symm
theorem At.tail (H : At w0 (P :: L) w) : At w0 L w := H.imp fun _ => sep_tail
theorem At.imp1 (H : At w0 (P :: L) w) (f : ∀ h, P h → Q h) : At w0 (Q :: L) w := H.imp fun _ s => sep_mono s f fun _ t => t
theorem At.opened (H : At w0 (P :: L) w) (f : ∀ h, P h → seps A h) : At w0 (A ++ L) w := H.imp fun h s => seps_join A h (sep_mono s f fun _ t => t)
theorem At.closed (H : At w0 (A ++ L) w) (f : ∀ h, seps A h → P h) : At w0 (P :: L) w := H.imp fun h s => sep_mono (seps_split A h s) f fun _ t => t
theorem At.ex {α : Type} {F : α → SP} (H : At w0 (Hg.ex F :: L) w) : ∃ x, At w0 (F x :: L) w := by
 obtain ⟨b, h, ⟨h1, h2, ⟨x, p⟩, q, r⟩, t, u⟩ := H
 exact ⟨x, b, h, ⟨h1, h2, p, q, r⟩, t, u⟩
theorem At.fact {p : Prop} (H : At w0 (Hg.fact p :: L) w) : p ∧ At w0 L w := by
 refine ⟨?_, H.tail⟩
 obtain ⟨b, h, ⟨h1, h2, x, _⟩, _⟩ := H
 exact x
theorem At.tells {p : Prop} (H : At w0 (P :: L) w) (f : ∀ h, P h → p) : p := by
 obtain ⟨b, h, ⟨h1, h2, x, _⟩, _⟩ := H
 exact f _ x
theorem At.mk_fact {p : Prop} (hp : p) (H : At w0 L w) : At w0 (Hg.fact p :: L) w :=
 H.imp fun h s => ⟨fun _ => none, h, hp, s, fun _ => .inl rfl, fun _ _ e => (nomatch e), Hp.le_refl _⟩
theorem At.step (H : At w0 (P :: L) w) (bel : ∀ b, b < w0.heap.size → w'.heap[b]? = w.heap[b]?) (hos : w'.os = w.os) (htp : w'.tape = w.tape) (hout : w'.output = w.output) (hsz : w.heap.size ≤ w'.heap.size)
    (f : ∀ h, P h → sat w h → (∀ b, h b ≠ none → w0.heap.size ≤ b) →
     ∃ h', Q h' ∧ sat w' h' ∧ (∀ b, h' b ≠ none → h b ≠ none ∨ w.heap.size ≤ b) ∧ ∀ b, b < w.heap.size → h b = none → w'.heap[b]? = w.heap[b]?) : At w0 (Q :: L) w' := by
 obtain ⟨hb, h, ⟨h1, h2, p, q, d, l1, l2⟩, s, u⟩ := H
 have s1 : sat w h1 := fun b o e => s b o (l1 b o e)
 have u1 : ∀ b, h1 b ≠ none → w0.heap.size ≤ b := fun b e => by
  cases hh : h1 b with
  | none => exact absurd hh e
  | some o => exact u b (by rw [l1 b o hh]; simp)
 obtain ⟨h', q', s', n', k'⟩ := f h1 p s1 u1
 have dj : h'.dj h2 := fun b => by
  by_cases e : h' b = none
  · exact .inl e
  · rcases n' b e with g | g
    · exact .inr ((d b).resolve_left g)
    · refine .inr ?_
      cases hh : h2 b with
      | none => rfl
      | some o => exact absurd (sat.lt s (b := b) (by rw [l2 b o hh]; simp)) (by omega)
 refine ⟨⟨hos.trans hb.os, htp.trans hb.tape, hout.trans hb.output, Nat.le_trans hb.size hsz, fun b hlt => (bel b hlt).trans (hb.block b hlt)⟩, h'.jn h2, ⟨h', h2, q', q, dj, le_jn_l, le_jn_r dj⟩, ?_, ?_⟩
 · intro b o e
   unfold Hp.jn at e
   cases hh : h' b with
   | some x => simp [hh] at e; subst e; exact s' b x hh
   | none =>
    simp [hh] at e
    have e2 := s b o (l2 b o e)
    have e3 : h1 b = none := (d b).resolve_right (by rw [e]; simp)
    rw [k' b (sat.lt s (by rw [l2 b o e]; simp)) e3]
    exact e2
 · intro b e
   unfold Hp.jn at e
   cases hh : h' b with
   | some x =>
    rcases n' b (by rw [hh]; simp) with g | g
    · exact u1 b g
    · have := hb.size; omega
   | none =>
    simp [hh] at e
    cases h3 : h2 b with
    | none => exact absurd h3 e
    | some o => exact u b (by rw [l2 b o h3]; simp)
theorem At.same (H : At w0 L w) (hh : w'.heap = w.heap) (hos : w'.os = w.os) (htp : w'.tape = w.tape) (hout : w'.output = w.output) : At w0 L w' := by
 obtain ⟨hb, h, s, t, u⟩ := H
 exact ⟨⟨hos.trans hb.os, htp.trans hb.tape, hout.trans hb.output, by rw [hh]; exact hb.size, fun b hlt => by rw [hh]; exact hb.block b hlt⟩, h, s, fun b o e => by rw [hh]; exact t b o e, u⟩
theorem At.drew (H : At w0 L w) : At w0 L w.drew := H.same rfl rfl rfl rfl
theorem At.grown (H : At w0 L w) (g : Below w.heap.size w w') : At w0 L w' := by
 obtain ⟨hb, h, s, t, u⟩ := H
 refine ⟨hb.trans (g.mono hb.size), h, s, fun b o e => ?_, u⟩
 rw [g.block b (sat.lt t (by rw [e]; simp))]
 exact t b o e
theorem At.alloc (H : At w0 L w) (o : Obj) : At w0 (one w.heap.size o :: L) (w.alloc o) := by
 have H' : At w0 (Hg.fact True :: L) w := H.mk_fact trivial
 have hsz := H.below.size
 refine H'.step (Q := one w.heap.size o) (fun b hb => Below.heap_alloc _ _ _ (by omega)) rfl rfl rfl (by simp) ?_
 intro h _ s _
 refine ⟨fun b => if b = w.heap.size then some o else none, by simp [one], ?_, ?_, fun b hb _ => Below.heap_alloc _ _ _ hb⟩
 · intro b x e
   by_cases hb : b = w.heap.size
   · subst hb; simp at e; subst e; exact heap_alloc_last w o
   · simp [hb] at e
 · intro b e
   by_cases hb : b = w.heap.size
   · exact .inr (by omega)
   · simp [hb] at e
theorem At.one_heap {b : Nat} {o : Obj} (H : At w0 (one b o :: L) w) : w.heap[b]? = some o := by
 obtain ⟨hb, h, ⟨h1, h2, p, q, d, l1, l2⟩, s, u⟩ := H
 exact s b o (l1 b o p)
theorem At.one_base {b : Nat} {o : Obj} (H : At w0 (one b o :: L) w) : w0.heap.size ≤ b := by
 obtain ⟨hb, h, ⟨h1, h2, p, q, d, l1, l2⟩, s, u⟩ := H
 exact u b (by rw [l1 b o p]; simp)
theorem At.heap (H : At w0 L w) (i : Nat) {b : Nat} {o : Obj} (hi : L[i]? = some (one b o)) : w.heap[b]? = some o := (H.pull i hi).one_heap
theorem At.put {b : Nat} {o o' : Obj} (H : At w0 (one b o :: L) w) (hw : w'.heap[b]? = some o') (hk : ∀ k, k ≠ b → w'.heap[k]? = w.heap[k]?) (hos : w'.os = w.os) (htp : w'.tape = w.tape) (hout : w'.output = w.output) (hsz : w.heap.size ≤ w'.heap.size) : At w0 (one b o' :: L) w' := by
 have hbase := H.one_base
 refine H.step (Q := one b o') (fun k hk' => hk k (by omega)) hos htp hout hsz ?_
 intro h p s _
 refine ⟨fun k => if k = b then some o' else none, by simp [one], ?_, ?_, ?_⟩
 · intro k x e
   by_cases hb : k = b
   · subst hb; simp at e; subst e; exact hw
   · simp [hb] at e
 · intro k e
   by_cases hb : k = b
   · subst hb; exact .inl (by have : h k = some o := p; simp [this])
   · simp [hb] at e
 · intro k _ e
   refine hk k ?_
   rintro rfl
   have : h k = some o := p
   simp [this] at e
theorem At.set {b off : Nat} {cs : Array Value} {t : TypeId} {fr : Nat × Nat} (H : At w0 (one b (.cells cs t fr) :: L) w) (v : Value) : At w0 (one b (.cells (cs.setIfInBounds off v) t fr) :: L) (w.setCell ⟨b, off, none⟩ v) := by
 have hb := H.one_heap
 have hlt : b < w.heap.size := (Array.getElem?_eq_some_iff.1 hb).1
 refine H.put (o' := .cells (cs.setIfInBounds off v) t fr) ?_ (fun k hk => Below.heap_setCell _ _ _ _ hk) rfl rfl rfl (by simp)
 have := (Array.getElem?_eq_some_iff.1 hb).2
 simp [World.setCell, Array.getElem?_modify, hb]
theorem At.setAt (H : At w0 L w) (i : Nat) {b : Nat} (off : Nat) {cs : Array Value} {t : TypeId} {fr : Nat × Nat} (hi : L[i]? = some (one b (.cells cs t fr))) (v : Value) : At w0 (L.set i (one b (.cells (cs.setIfInBounds off v) t fr))) (w.setCell ⟨b, off, none⟩ v) := by
 have H' := (H.pull i hi).set (off := off) v
 refine H'.perm ?_
 obtain ⟨hl, _⟩ := List.getElem?_eq_some_iff.1 hi
 have h2 := perm_erase (L.set i (one b (.cells (cs.setIfInBounds off v) t fr))) i (one b (.cells (cs.setIfInBounds off v) t fr)) (by simp [hl])
 rwa [List.eraseIdx_set_eq] at h2
theorem At.setRow {b : Nat} {cs cs' : Array Value} {t : TypeId} (H : At w0 (raw b cs t :: L) w) : At w0 (raw b cs' t :: L) (w.setRow b cs') := by
 have hb := H.one_heap
 exact H.put (setRow_heap w b cs cs' t _ hb) (fun k hk => setRow_other w b k _ (fun e => hk e)) rfl rfl rfl (by simp)
end at_
theorem raw_cell {w : World} {b : Nat} {cs : Array Value} {t : TypeId} {fr : Nat × Nat} (h : w.heap[b]? = some (.cells cs t fr)) (j : Nat) : w.cell? ⟨b, j, none⟩ = cs[j]? := cell_of_row w b j cs t fr h
theorem raw_free {w : World} {b : Nat} {cs : Array Value} {t : TypeId} (h : w.heap[b]? = some (.cells cs t (0, 0))) (j : Nat) : w.frozen? ⟨b, j, none⟩ = false := frozen_of_row w b j cs t h
def rows (e : TypeId) (size : Nat) (v : Value) (n : Nat) (xs : List Value) : SP := fun h =>
 xs.length = n * size ∧ ((v = .slice none 0 0 ∧ n = 0) ∨
  ∃ g off cap cur, v = .slice (some ⟨g, off, none⟩) n cap ∧ h g = some (.cells cur e (0, 0)) ∧ n ≤ cap ∧ cap ≤ maxLen ∧ off + cap * size ≤ cur.size ∧ (cur.toList.drop off).take (n * size) = xs)
section rows
variable {w0 w : World} {L : List SP} {e : TypeId} {size : Nat} {v : Value} {n : Nat} {xs : List Value}
theorem rows_nil : rows e size (.slice none 0 0) 0 [] = fun _ => True := by
 funext h
 simp [rows]
theorem At.rows_nil (H : At w0 L w) (e : TypeId) (size : Nat) : At w0 (rows e size (.slice none 0 0) 0 [] :: L) w := by
 rw [Hg.rows_nil]
 exact H.mk_fact (p := True) trivial
theorem At.rows_length (H : At w0 (rows e size v n xs :: L) w) : xs.length = n * size := H.tells fun _ p => p.1
theorem At.rows_value (H : At w0 (rows e size v n xs :: L) w) : (v = .slice none 0 0 ∧ n = 0 ∧ xs = []) ∨
    ∃ g off cap, v = .slice (some ⟨g, off, none⟩) n cap ∧ n ≤ cap ∧ cap ≤ maxLen ∧ ∀ j, j < n * size → w.cell? ⟨g, off + j, none⟩ = xs[j]? := by
 obtain ⟨hb, h, ⟨h1, h2, ⟨hl, p⟩, q, d, l1, l2⟩, s, u⟩ := H
 rcases p with ⟨rfl, rfl⟩ | ⟨g, off, cap, cur, rfl, hg, hn, hc, hs, ht⟩
 · exact .inl ⟨rfl, rfl, List.eq_nil_of_length_eq_zero (by simpa using hl)⟩
 · refine .inr ⟨g, off, cap, rfl, hn, hc, fun j hj => ?_⟩
   rw [raw_cell (s g _ (l1 g _ hg)) (off + j), ← ht, List.getElem?_take, if_pos hj, List.getElem?_drop]
   simp
theorem At.rows_one (H : At w0 (rows e size v n xs :: L) w) : v.oneCell' = true := by
 rcases H.rows_value with ⟨rfl, _⟩ | ⟨_, _, _, rfl, _⟩ <;> rfl
theorem At.rows_slice (H : At w0 (rows e size v n xs :: L) w) : ∃ a c, v = .slice a n c := by
 rcases H.rows_value with ⟨rfl, rfl, _⟩ | ⟨_, _, _, rfl, _⟩
 · exact ⟨_, _, rfl⟩
 · exact ⟨_, _, rfl⟩
theorem At.rows_new {b : Nat} {cur : Array Value} {cap : Nat} (H : At w0 (raw b cur e :: L) w) (hn : n ≤ cap) (hc : cap ≤ maxLen) (hs : cap * size ≤ cur.size) (hx : cur.toList.take (n * size) = xs) :
    At w0 (rows e size (.slice (some ⟨b, 0, none⟩) n cap) n xs :: L) w := by
 refine H.imp1 fun h p => ⟨?_, .inr ⟨b, 0, cap, cur, rfl, p, hn, hc, by omega, by simpa using hx⟩⟩
 rw [← hx, List.length_take, Array.length_toList]
 have := Nat.mul_le_mul_right size hn
 omega
theorem At.rows_take {g off cap q c : Nat} (H : At w0 (rows e size (.slice (some ⟨g, off, none⟩) n cap) n xs :: L) w) (hq : q ≤ n) (hqc : q ≤ c) (hc : c ≤ cap) : At w0 (rows e size (.slice (some ⟨g, off, none⟩) q c) q (xs.take (q * size)) :: L) w := by
 refine H.imp1 fun h p => ?_
 obtain ⟨hl, p⟩ := p
 rcases p with ⟨hv, _⟩ | ⟨g', off', cap', cur, hv, hg, hn, hm, hs, hx⟩
 · cases hv
 · cases hv
   have h1 := Nat.mul_le_mul_right size hq
   have h2 := Nat.mul_le_mul_right size hc
   refine ⟨by rw [List.length_take]; omega, .inr ⟨g, off, c, cur, rfl, hg, hqc, by omega, by omega, ?_⟩⟩
   rw [← hx, List.take_take, Nat.min_eq_left h1]
theorem At.rows_drop {g off cap q : Nat} (H : At w0 (rows e size (.slice (some ⟨g, off, none⟩) n cap) n xs :: L) w) (hq : q ≤ n) : At w0 (rows e size (.slice (some ⟨g, off + q * size, none⟩) (n - q) (cap - q)) (n - q) (xs.drop (q * size)) :: L) w := by
 refine H.imp1 fun h p => ?_
 obtain ⟨hl, p⟩ := p
 rcases p with ⟨hv, _⟩ | ⟨g', off', cap', cur, hv, hg, hn, hm, hs, hx⟩
 · cases hv
 · cases hv
   have h1 := Nat.mul_le_mul_right size hq
   have h2 := Nat.mul_le_mul_right size (Nat.le_trans hq hn)
   have e1 : (n - q) * size = n * size - q * size := Nat.sub_mul _ _ _
   have e2 : (cap - q) * size = cap * size - q * size := Nat.sub_mul _ _ _
   refine ⟨by rw [List.length_drop]; omega, .inr ⟨g, off + q * size, cap - q, cur, rfl, hg, by omega, by omega, by omega, ?_⟩⟩
   rw [← hx, List.drop_take, List.drop_drop, e1]
theorem At.rows_none {g off : Nat} {xs : List Value} {n cap : Nat} (H : At w0 (rows e size (.slice (some ⟨g, off, none⟩) n cap) n xs :: L) w) : At w0 (rows e size (.slice (some ⟨g, off, none⟩) 0 0) 0 [] :: L) w := by
 simpa using H.rows_take (q := 0) (c := 0) (Nat.zero_le _) (Nat.zero_le _) (Nat.zero_le _)
theorem At.rows_upd {g off cap n' : Nat} {cur cur' : Array Value} {xs' : List Value} (H : At w0 (rows e size (.slice (some ⟨g, off, none⟩) n cap) n xs :: L) w) (hg : w.heap[g]? = some (.cells cur e (0, 0))) (hn : n' ≤ cap) (hc : cap ≤ maxLen)
    (hs : off + cap * size ≤ cur'.size) (hl : xs'.length = n' * size) (hx : (cur'.toList.drop off).take (n' * size) = xs') : At w0 (rows e size (.slice (some ⟨g, off, none⟩) n' cap) n' xs' :: L) (w.setRow g cur') := by
 have hbase : w0.heap.size ≤ g := by
  obtain ⟨hb, h, ⟨h1, h2, ⟨_, p⟩, q, d, l1, l2⟩, s, u⟩ := H
  rcases p with ⟨hv, _⟩ | ⟨g', off', cap', cur0, hv, hg', _⟩
  · cases hv
  · cases hv
    exact u g (by rw [l1 g _ hg']; simp)
 refine H.step (fun b hlt => setRow_other w g b _ (fun e => by omega)) rfl rfl rfl (by simp) ?_
 intro h p _ _
 have hh : h g ≠ none := by
  rcases p.2 with ⟨hv, _⟩ | ⟨g', off', cap', cur0, hv, hg', _⟩
  · cases hv
  · cases hv
    rw [hg']; simp
 refine ⟨fun k => if k = g then some (.cells cur' e (0, 0)) else none, ⟨hl, .inr ⟨g, off, cap, cur', rfl, by simp, hn, hc, hs, hx⟩⟩, ?_, ?_, ?_⟩
 · intro k x e'
   by_cases hk : k = g
   · subst hk; simp at e'; subst e'; exact setRow_heap w k cur _ e _ hg
   · simp [hk] at e'
 · intro k e'
   by_cases hk : k = g
   · subst hk; exact .inl hh
   · simp [hk] at e'
 · intro k _ e'
   exact setRow_other w g k _ (fun e2 => by subst e2; exact hh e')
structure Src (P : Program) (size : Nat) (w : World) (x : Value) (m : Nat) (news : List Value) : Prop where
 len : ∀ wx : World, (Builtin.lenOf x).run P wx = .ok m wx
 length : news.length = m * size
 cells : ∀ wx : World, Below w.heap.size w wx → (Builtin.firstCells size m x).run P wx = .ok news.toArray wx
 one : ∀ u ∈ news, u.oneCell' = true
theorem Src.some {P : Program} {a : Addr} {m c : Nat} {news : List Value} (hl : news.length = m * size) (hc : ∀ j u, news[j]? = some u → w.cell? (a.add j) = some u) (h1 : ∀ u ∈ news, u.oneCell' = true) : Src P size w (.slice (some a) m c) m news :=
 ⟨fun wx => by simp [Builtin.lenOf], hl, fun wx hw => run_firstCells_some wx size m a m c news hl (fun j u h => by
  have := hc j u h
  rw [hw.cell (World.block_lt_of_cell? w _ this)]
  exact this), h1⟩
theorem Src.none {P : Program} {c : Nat} : Src P size w (.slice none 0 c) 0 [] :=
 ⟨fun wx => by simp [Builtin.lenOf], by simp, fun wx _ => by simp [Builtin.firstCells], by simp⟩
theorem Src.string {P : Program} (s : ByteArray) : Src P 1 w (.string s) s.size (s.data.toList.map fun b => Value.int .u8 b.toNat) := by
 refine ⟨fun wx => by simp [Builtin.lenOf], by simp, fun wx _ => ?_, ?_⟩
 · simp only [Builtin.firstCells]
   have : s.extract 0 s.size = s := by simp
   rw [this]
   have e2 : Array.map (fun b => Value.int IntKind.u8 ↑(UInt8.toNat b)) s.data = (List.map (fun b => Value.int IntKind.u8 ↑(UInt8.toNat b)) s.data.toList).toArray := by
    apply Array.ext'
    simp
   rw [e2]
   rfl
 · intro u hu
   simp at hu
   obtain ⟨b, _, rfl⟩ := hu
   rfl
theorem Src.later {P : Program} {w' : World} {x : Value} {m : Nat} {news : List Value} (h : Src P size w x m news) (g : Below w.heap.size w w') : Src P size w' x m news :=
 ⟨h.len, h.length, fun wx hw => h.cells wx (g.trans (hw.mono g.size)), h.one⟩
theorem Src.length_le {P : Program} {x : Value} {m : Nat} {news : List Value} (h : Src P size w x m news) : news.length = m * size := h.length
def SrcType (P : Program) (t2 : TypeId) : Prop := (∃ e2, P.underlying t2 = some (.slice e2)) ∨ P.underlying t2 = some .string
theorem append_stay {P : Program} {base : Option Addr} {sLen sCap : Nat} (t t2 ty e : TypeId) (i : TypeInfo) (ht : P.underlying t = some (.slice e)) (ht2 : SrcType P t2) (hi : P.info? e = some i)
    {x : Value} {m : Nat} {news : List Value} (hx : Src P i.size w x m news) (hroom : sLen + m ≤ sCap) {w' : World}
    (hst : ∀ a, base = some a → (storeCells (a.add (sLen * i.size)) news).run P w = .ok () w') (hno : base = none → w' = w) :
    (Builtin.append_ #[t, t2] ty #[.slice base sLen sCap, x]).run P w = .ok (.slice base (sLen + m) sCap) w' := by
 have hf := hx.cells w (Below.refl _ _)
 cases base with
 | none =>
  have := hno rfl
  subst this
  rcases ht2 with ⟨e2, ht2⟩ | ht2 <;> simp [Builtin.append_, run_underlying ht, run_underlying ht2, sizeOf, typeInfo, hi, hx.len, hroom, hf]
 | some a =>
  have h2 := hst a rfl
  rcases ht2 with ⟨e2, ht2⟩ | ht2 <;> simp [Builtin.append_, run_underlying ht, run_underlying ht2, sizeOf, typeInfo, hi, hx.len, hroom, hf, h2]
theorem append_grow {P : Program} {base : Option Addr} {sLen sCap : Nat} (t t2 ty e : TypeId) (i : TypeInfo) (z : Value) (ht : P.underlying t = some (.slice e)) (ht2 : SrcType P t2) (hi : P.info? e = some i) (hz : i.zero = some z)
    {x : Value} {m : Nat} {news olds : List Value} (hx : Src P i.size w x m news) (hroom : sCap < sLen + m) (h63 : sLen + m ≤ 9223372036854775807) (hfit : Builtin.nextslicecap (sLen + m) sCap * i.bytes ≤ 281474976710656)
    (hold : ∀ wx : World, wx.heap = w.heap → (Builtin.firstCells i.size sLen (.slice base sLen sCap)).run P wx = .ok olds.toArray wx) :
    (Builtin.append_ #[t, t2] ty #[.slice base sLen sCap, x]).run P w = .ok (.slice (some ⟨w.heap.size, 0, none⟩) (sLen + m) (grownCap w (sLen + m) sCap e))
     (w.drew.alloc (.cells (olds.toArray ++ news.toArray ++ Builtin.zeroCells z.cells (grownCap w (sLen + m) sCap e - (sLen + m))) e)) := by
 have hf := hx.cells w.drew (Below.refl _ w).drew
 have ho := hold w.drew rfl
 have hn : ¬ (sLen + m ≤ sCap) := by omega
 have h63' : ¬ (9223372036854775807 < ((sLen : Int) + (m : Int))) := by omega
 have h48' : ¬ (281474976710656 < Builtin.nextslicecap (sLen + m) sCap * i.bytes) := by omega
 rcases ht2 with ⟨e2, ht2⟩ | ht2
 · simp [Builtin.append_, run_underlying ht, run_underlying ht2, sizeOf, typeInfo, zeroValue, hi, hz, hx.len, hn, h63', h48', Question.forced, hf, ho, newRow, grownCap]
   congr 2
   apply Array.ext'
   simp [List.append_assoc]
 · simp [Builtin.append_, run_underlying ht, run_underlying ht2, sizeOf, typeInfo, zeroValue, hi, hz, hx.len, hn, h63', h48', Question.forced, hf, ho, newRow, grownCap]
   congr 2
   apply Array.ext'
   simp [List.append_assoc]
theorem run_append_sl {P : Program} (H : At w0 (rows e size v n xs :: L) w) (t t2 ty : TypeId) (i : TypeInfo) (z : Value) (bytes : Nat) (ht : P.underlying t = some (.slice e)) (ht2 : SrcType P t2)
    (hi : P.info? e = some i) (hz : i.zero = some z) (hsize : i.size = size) (hby : i.bytes = bytes) (hzs : z.cells.size = size)
    {x : Value} {m : Nat} {news : List Value} (hx : Src P size w x m news) (h63 : n + m ≤ maxLen) (hbytes : (n + m) * bytes ≤ 140737488355328) :
    ∃ v' w', (Builtin.append_ #[t, t2] ty #[v, x]).run P w = .ok v' w' ∧ At w0 (rows e size v' (n + m) (xs ++ news) :: L) w' ∧ (v' = .slice none 0 0 ↔ v = .slice none 0 0 ∧ m = 0) := by
 subst hsize
 subst hby
 have hsmall : n + m ≤ 9223372036854775807 := by simp only [maxLen] at h63; omega
 have hxl := H.rows_length
 have hnl := hx.length
 have hlen : (xs ++ news).length = (n + m) * i.size := by rw [List.length_append, hxl, hnl, Nat.add_mul]
 have grown : ∀ (old : Nat), old < n + m → At w0 (rows e i.size (.slice (some ⟨w.heap.size, 0, none⟩) (n + m) (grownCap w (n + m) old e)) (n + m) (xs ++ news) :: L)
     (w.drew.alloc (.cells (xs.toArray ++ news.toArray ++ Builtin.zeroCells z.cells (grownCap w (n + m) old e - (n + m))) e)) := by
  intro old ho
  have hge := grownCap_ge w (n + m) old e
  have hcm : grownCap w (n + m) old e ≤ maxLen := grownCap_le_maxLen w (n + m) old e h63
  have H2 := (H.tail.drew.alloc (.cells (xs.toArray ++ news.toArray ++ Builtin.zeroCells z.cells (grownCap w (n + m) old e - (n + m))) e))
  refine At.rows_new (b := w.heap.size) H2 hge hcm ?_ ?_
  · simp only [Array.size_append, List.size_toArray, size_zeroCells, hzs, hxl, hnl, ← Nat.add_mul]
    exact Nat.le_of_eq (by congr 1; omega)
  · simp only [Array.toList_append, List.append_assoc]
    rw [← List.append_assoc, ← hlen]
    exact List.take_left
 have H0 := H
 obtain ⟨hb, h, ⟨h1, h2, ⟨_, p⟩, q, d, l1, l2⟩, s, u⟩ := H
 rcases p with ⟨rfl, rfl⟩ | ⟨g, off, cap, cur, rfl, hg, hnc, hcm, hcs, htake⟩
 · have hx0 : xs = [] := List.eq_nil_of_length_eq_zero (by simpa using hxl)
   subst hx0
   by_cases hm : m = 0
   · subst hm
     have hn0 : news = [] := List.eq_nil_of_length_eq_zero (by simpa using hnl)
     subst hn0
     refine ⟨_, w, append_stay t t2 ty e i ht ht2 hi hx (by omega) (by simp) (fun _ => rfl), ?_, by simp⟩
     rw [show rows e i.size (.slice none (0 + 0) 0) (0 + 0) ([] ++ []) = fun _ => True from by simpa using rows_nil]
     exact ⟨hb, h, ⟨h1, h2, trivial, q, d, l1, l2⟩, s, u⟩
   · refine ⟨_, _, append_grow t t2 ty e i z ht ht2 hi hz (olds := []) hx (by omega) (by omega) ?_ (fun wx _ => by simp [Builtin.firstCells]), ?_, by simp [hm]⟩
     · exact growslice_fits (by omega) hbytes
     · have := grown 0 (by omega)
       simpa using this
 · have hheap : w.heap[g]? = some (.cells cur e (0, 0)) := s g _ (l1 g _ hg)
   have hadd : ∀ k, (⟨g, off, none⟩ : Addr).add k = ⟨g, off + k, none⟩ := fun k => Addr.add_lit g off k
   have hxl2 : n * i.size ≤ cap * i.size := Nat.mul_le_mul_right _ hnc
   by_cases hroom : n + m ≤ cap
   · have hfit : off + n * i.size + news.length ≤ cur.size := by
       have := Nat.mul_le_mul_right i.size hroom
       rw [Nat.add_mul] at this
       omega
     have hst := run_storeCells_at P g (off + n * i.size) e news 0 cur w hheap (by omega) hx.one
     simp only [Nat.add_zero] at hst
     refine ⟨_, _, append_stay t t2 ty e i ht ht2 hi hx hroom (fun a ha => by cases ha; rw [hadd]; exact hst) (fun e => nomatch e), ?_, by simp⟩
     refine H0.rows_upd hheap hroom hcm ?_ hlen ?_
     · simp only [List.size_toArray, List.length_append, List.length_take, List.length_drop, Array.length_toList]
       omega
     · have e1 : (List.take (off + n * i.size) cur.toList).drop off = xs := by
         rw [← htake, List.take_drop]
       have e2 : (List.take (off + n * i.size) cur.toList).length = off + n * i.size := by
        rw [List.length_take, Array.length_toList]; omega
       rw [List.append_assoc, List.drop_append_of_le_length (by omega), e1, ← List.append_assoc, ← hlen]
       exact List.take_left
   · have holds : ∀ j u, xs[j]? = some u → w.cell? ((⟨g, off, none⟩ : Addr).add j) = some u := by
       intro j u hu
       rw [hadd, raw_cell hheap]
       rw [← htake, List.getElem?_take] at hu
       split at hu
       · rw [List.getElem?_drop] at hu
         simpa using hu
       · cases hu
     refine ⟨_, _, append_grow t t2 ty e i z ht ht2 hi hz (olds := xs) hx (by omega) (by omega) (growslice_fits (by omega) hbytes) (fun wx hw => run_firstCells_some wx i.size n ⟨g, off, none⟩ n cap xs hxl (fun j u h => by have := holds j u h; simpa [World.cell?, hw] using this)), grown cap (by omega), by simp⟩
theorem wp_append_sl {P : Program} {o : Oper} {a : Act} {K : Act → World → Prop} {Q : Exit → Act → World → Prop} (s xo : Operand) (t t2 : TypeId)
    (ho : o.op = .call { callee := .builtin .append, args := #[s, xo], argTypes := #[t, t2] })
    (i : TypeInfo) (z : Value) (bytes : Nat) (ht : P.underlying t = some (.slice e)) (ht2 : SrcType P t2) (hi : P.info? e = some i) (hz : i.zero = some z)
    (hsize : i.size = size) (hby : i.bytes = bytes) (hzs : z.cells.size = size) (hs : a.eval s = v) (H : At w0 (rows e size v n xs :: L) w)
    {x : Value} {m : Nat} {news : List Value} (hxo : a.eval xo = x) (hx : Src P size w x m news) (h63 : n + m ≤ maxLen) (hbytes : (n + m) * bytes ≤ 140737488355328)
    (h : ∀ v' w', At w0 (rows e size v' (n + m) (xs ++ news) :: L) w' → (v' = .slice none 0 0 ↔ v = .slice none 0 0 ∧ m = 0) → K (a.put o.dst v') w') : o.wp P a w K Q := by
 obtain ⟨v', w', hr, h2, h3⟩ := run_append_sl H t t2 o.type i z bytes ht ht2 hi hz hsize hby hzs hx h63 hbytes
 unfold Oper.wp execOp
 simp only [ho, resolve, invoke, builtin, Sem.run_bind, Sem.run_pure, Result.andThen_ok, List.map_toArray, List.map_cons, List.map_nil, hs, hxo, hr]
 exact h v' w' h2 h3
end rows
theorem foldl_fill (off : Nat) : ∀ (vs : List Value) (k : Nat) (cells : Array Value), off + k + vs.length ≤ cells.size →
    ((vs.zipIdx k).foldl (fun cs (x : Value × Nat) => cs.setIfInBounds (off + x.2) x.1) cells).toList = cells.toList.take (off + k) ++ vs ++ cells.toList.drop (off + k + vs.length) := by
 intro vs
 induction vs with
 | nil => intro k cells h; simp
 | cons v vs ih =>
  intro k cells h
  simp only [List.length_cons] at h
  simp only [List.zipIdx_cons, List.foldl_cons]
  rw [ih (k + 1) _ (by simp; omega)]
  apply List.ext_getElem?
  intro j
  simp only [Array.toList_setIfInBounds, List.getElem?_append, List.getElem?_take, List.getElem?_drop, List.getElem?_set, List.length_append, List.length_take, List.length_set, List.length_cons, Array.length_toList, List.getElem?_cons]
  repeat' split
  all_goals first | rfl | omega | (congr 1; omega) | skip
theorem fill_whole (place : Nat → Option (Nat × Nat)) (cells : Array Value) (v : Value) (h : place 0 = some (0, cells.size)) (hv : v.cells.size = cells.size) : Instr.fill place cells [(0, v)] = some v.cells := by
 have e := foldl_fill 0 v.cells.toList 0 cells (by simp; omega)
 unfold Instr.fill
 rw [h]
 simp only [Instr.fill, hv, Nat.zero_add]
 rw [if_neg (by simp)]
 congr 1
 apply Array.ext'
 simp only [Nat.zero_add, List.take_zero, List.nil_append] at e
 rw [List.drop_of_length_le (by simp [hv])] at e
 rw [← Array.foldl_toList]
 simpa using e
theorem run_buildSlice_one {P : Program} {t e : TypeId} {i : TypeInfo} {z : Value} (ht : P.underlying t = some (.slice e)) (hi : P.info? e = some i) (hz : i.zero = some z) (hzs : z.cells.size = i.size) (v : Value) (hv : v.cells.size = i.size) (h0 : i.size ≠ 0) (hmax : i.size ≤ 16777216) (w : World) :
    (Instr.buildSlice t 1 #[(0, v)]).run P w = .ok (.slice (some ⟨w.heap.size, 0, none⟩) 1 1) (w.alloc (.cells v.cells e)) := by
 have hs : ((Array.range (1 * i.size)).map (z.cells[· % z.cells.size]!)).size = i.size := by simp
 have hf := fill_whole (fun k => some (k * i.size, i.size)) ((Array.range (1 * i.size)).map (z.cells[· % z.cells.size]!)) v (by simp) (by simp [hv])
 have hm : ¬ (1 * i.size > 2 ^ 24) := by omega
 have hn : ¬ (1 * i.size = 0) := by omega
 simp only [Instr.buildSlice, Sem.run_bind, run_underlying ht, Result.andThen_ok, sizeOf, typeInfo, zeroValue]
 simp [hi, hz, Sem.run_pure]
 rw [if_neg (by omega), if_neg h0]
 simp only [Nat.one_mul] at hf
 rw [hf]
 simp [newRow]
theorem run_buildSlice_none {P : Program} {t e : TypeId} {i : TypeInfo} (ht : P.underlying t = some (.slice e)) (hi : P.info? e = some i) (w : World) :
    (Instr.buildSlice t 0 #[]).run P w = .ok (.slice (some ⟨w.heap.size, 0, none⟩) 0 0) (w.alloc (.cells #[] e)) := by
 simp [Instr.buildSlice, run_underlying ht, sizeOf, typeInfo, hi, Instr.fill, newRow]
 have : (Array.map (fun _ => (default : Value)) (Array.range 0)) = #[] := Array.eq_empty_of_size_eq_zero (by simp)
 rw [this]
theorem wp_buildSlice_one {P : Program} {o : Oper} {a : Act} {w : World} {K : Act → World → Prop} {Q : Exit → Act → World → Prop} (t : TypeId) (x : Operand) (ho : o.op = .buildSlice t 1 #[(0, x)])
    {e : TypeId} {i : TypeInfo} {z v : Value} (ht : P.underlying t = some (.slice e)) (hi : P.info? e = some i) (hz : i.zero = some z) (hzs : z.cells.size = i.size) (hx : a.eval x = v) (hv : v.cells.size = i.size) (h0 : i.size ≠ 0) (hmax : i.size ≤ 16777216)
    (h : K (a.put o.dst (.slice (some ⟨w.heap.size, 0, none⟩) 1 1)) (w.alloc (.cells v.cells e))) : o.wp P a w K Q := by
 unfold Oper.wp execOp
 simp only [ho, List.map_toArray, List.map_cons, List.map_nil, hx, Sem.run_bind, run_buildSlice_one ht hi hz hzs v hv h0 hmax, Result.andThen_ok, Sem.run_pure]
 exact h
theorem wp_buildSlice_none {P : Program} {o : Oper} {a : Act} {w : World} {K : Act → World → Prop} {Q : Exit → Act → World → Prop} (t : TypeId) (ho : o.op = .buildSlice t 0 #[])
    {e : TypeId} {i : TypeInfo} (ht : P.underlying t = some (.slice e)) (hi : P.info? e = some i)
    (h : K (a.put o.dst (.slice (some ⟨w.heap.size, 0, none⟩) 0 0)) (w.alloc (.cells #[] e))) : o.wp P a w K Q := by
 unfold Oper.wp execOp
 simp only [ho, List.map_toArray, List.map_nil, Sem.run_bind, run_buildSlice_none ht hi, Result.andThen_ok, Sem.run_pure]
 exact h
theorem info_of {P : Program} {e : TypeId} {z : Value} {n b : Nat} (h : (P.info? e).map (fun i => (i.zero, i.size, i.bytes)) = some (some z, n, b)) : ∃ i, P.info? e = some i ∧ i.zero = some z ∧ i.size = n ∧ i.bytes = b := by
 cases hq : P.info? e with
 | none => simp [hq] at h
 | some i => simp [hq] at h; exact ⟨i, rfl, h.1, h.2.1, h.2.2⟩
theorem wp_store_cell {P : Program} {o : Oper} {a : Act} {w : World} {K : Act → World → Prop} {Q : Exit → Act → World → Prop} (ty : TypeId) (x y : Operand) (ho : o.op = .store ty x y) {p : Addr} {v u : Value}
    (hx : a.eval x = .pointer (some p)) (hy : a.eval y = v) (hi : (P.info? ty).map (·.size) = some 1) (h1 : v.oneCell' = true) (hc : w.cell? p = some u) (hf : w.frozen? p = false)
    (h : K (a.put o.dst undef) (w.setCell p v)) : o.wp P a w K Q := by
 unfold Oper.wp execOp
 cases hq : P.info? ty with
 | none => simp [hq] at hi
 | some i =>
  have hs : i.size = 1 := by simpa [hq] using hi
  have hst := run_store P w p v .plain h1
  have hcs : v.cells = #[v] := by cases v <;> first | rfl | simp [Value.oneCell'] at h1
  have hadd : p.add 0 = p := by simp [Addr.add]
  simp only [ho, Instr.storeAt, hx, hy, Instr.sureAddr, storeVar, sizeOf, typeInfo, Sem.run_bind, Sem.run_pure, Result.andThen_ok]
  simp [hq, hs, hcs, storeCells, hadd, hst, hc, hf]
  exact h
attribute [irreducible] rows one
end Go.Hg
namespace Go.Hg
open Go.RowKit
section
variable {P : Program} {ops : Array Oper} {Q : Exit → Act → World → Prop} {md : Region.Mode} {S : World → Prop} {L : Nat}
def OWp (P : Program) (o : Oper) (a : Act) (w : World) (K : Act → World → Prop) (Q : Exit → Act → World → Prop) : Prop := o.wp P a w K Q
theorem owp {P : Program} {o : Oper} {a : Act} {w : World} {K : Act → World → Prop} {Q : Exit → Act → World → Prop} (h : o.wp P a w K Q) : OWp P o a w K Q := h
theorem OWp.out {P : Program} {o : Oper} {a : Act} {w : World} {K : Act → World → Prop} {Q : Exit → Act → World → Prop} (h : OWp P o a w K Q) : o.wp P a w K Q := h
attribute [irreducible] OWp
theorem wpList_op {P : Program} {ops : Array Oper} {Q : Exit → Act → World → Prop} {o : Oper} {rest : List Oper} {a : Act} {w : World} (hg : o.guard = none)
    (h : ∀ K : Act → World → Prop, (∀ a w, wpList P ops Q rest a w → K a w) → OWp P o a w K Q) : wpList P ops Q (o :: rest) a w :=
 wpList_plain hg fun K hK => (h K hK).out
theorem wpList_opif {P : Program} {ops : Array Oper} {Q : Exit → Act → World → Prop} {o : Oper} {rest : List Oper} {a : Act} {w : World} (hg : Region.wanted o (yielded ops a.tmps) = true)
    (h : ∀ K : Act → World → Prop, (∀ a w, wpList P ops Q rest a w → K a w) → OWp P o a w K Q) : wpList P ops Q (o :: rest) a w :=
 wpList_step fun K hK => by rw [if_pos hg]; exact (h K hK).out
def lastOK (md : Region.Mode) (ops : Array Oper) (L : Nat) : Bool :=
 match ops[L]? with
 | none => true
 | some o => (List.range ops.size).all fun i => i == L || o.after.any fun e => Region.binds md e && e.on == i
def wpAnyL (P : Program) (md : Region.Mode) (ops : Array Oper) (Q : Exit → Act → World → Prop) (S : World → Prop) (L : Nat) : Nat → Array Bool → Act → World → Prop
 | 0, listed, a, w => Region.ready md ops listed = [] ∧ Q .normal a w
 | fuel + 1, listed, a, w => (Region.ready md ops listed = [] → Q .normal a w) ∧
     ∀ i ∈ Region.ready md ops listed, wpOp P ops Q i (fun a' w' => (i = L ∨ S w') ∧ wpAnyL P md ops Q S L fuel (listed.setIfInBounds i true) a' w') a w
theorem wpAnyL_any : ∀ (fuel : Nat) (listed : Array Bool) (a : Act) (w : World), wpAnyL P md ops Q S L fuel listed a w → wpAny P md ops Q fuel listed a w
 | 0, _, _, _, h => h
 | fuel + 1, _, _, _, h => ⟨h.1, fun i hi => wpOp_mono (fun _ _ h3 => wpAnyL_any fuel _ _ _ h3.2) (h.2 i hi)⟩
theorem wpAnyL_first {i : Nat} {oi : Oper} {v : Value} (hi : ops[i]? = some oi) (hsel : ∀ (j : Nat) (o : Oper) cs b, ops[j]? = some o → o.op ≠ .select cs b)
    (hQ : ∀ c a w, Q (.panic c) (a.put oi.dst v) w → Q (.panic c) a w) (hL : lastOK md ops L = true) (hiL : i ≠ L) (hil : i < ops.size) :
    ∀ (fuel : Nat) (listed : Array Bool) (a : Act) (w : World),
     (∀ j oj, ops[j]? = some oj → j ≠ i → listed.getD j true = false → (∀ e ∈ oj.after, Region.binds md e = true → e.on ≠ i) → oi.apart ops oj = true) →
     i ∈ Region.ready md ops listed → YieldsIf P ops S oi v a → S w →
     wpAnyL P md ops Q S L fuel (listed.setIfInBounds i true) (a.put oi.dst v) w → wpAnyL P md ops Q S L (fuel + 1) listed a w := by
 intro fuel
 induction fuel with
 | zero =>
  intro listed a w _ hr hy hS H
  refine ⟨fun h => (by rw [h] at hr; cases hr), fun j hj => ?_⟩
  by_cases hji : j = i
  · subst hji; exact hy.wpOp hi hS ⟨.inr hS, H⟩
  · have := ready_mono hj hji
    rw [H.1] at this
    cases this
 | succ fuel ih =>
  intro listed a w hfree hr hy hS H
  refine ⟨fun h => (by rw [h] at hr; cases hr), fun j hj => ?_⟩
  by_cases hji : j = i
  · subst hji; exact hy.wpOp hi hS ⟨.inr hS, H⟩
  · have h1 := H.2 j (ready_mono hj hji)
    obtain ⟨hjun, oj, hoj, hall⟩ := mem_ready.1 hj
    have hnot : ∀ e ∈ oj.after, Region.binds md e = true → e.on ≠ i := fun e he hb heq => by
     have h1 := hall e he hb
     have h0 := (mem_ready.1 hr).1
     rw [heq] at h1
     rcases Nat.lt_or_ge i listed.size with h' | h'
     · simp [h'] at h0 h1; rw [h0] at h1; cases h1
     · simp [Array.getElem?_eq_none h'] at h1
    have hjL : j ≠ L := by
     rintro rfl
     unfold lastOK at hL
     rw [hoj] at hL
     have h5 := List.all_eq_true.1 hL i (List.mem_range.2 hil)
     simp only [Bool.or_eq_true, beq_iff_eq, hiL, false_or] at h5
     obtain ⟨e, he, h6⟩ := Array.any_eq_true'.1 h5
     simp only [Bool.and_eq_true, beq_iff_eq] at h6
     exact hnot e he h6.1 h6.2
    have h2 := wpOp_putIf hoj (hfree j oj hoj hji hjun hnot) (fun cs b => hsel i oi cs b hi) (fun cs b => hsel j oj cs b hoj) hQ hy h1
    have hfree' : ∀ k ok, ops[k]? = some ok → k ≠ i → (listed.setIfInBounds j true).getD k true = false →
        (∀ e ∈ ok.after, Region.binds md e = true → e.on ≠ i) → oi.apart ops ok = true := fun k ok hk hki hun hno => by
     refine hfree k ok hk hki ?_ hno
     by_cases hjk : j = k
     · subst hjk; exact hjun
     · rw [getD_set_ne true hjk] at hun; exact hun
    refine wpOp_mono (fun a' w' h3 => ?_) h2
    have hS' : S w' := h3.2.1.resolve_left hjL
    refine ⟨.inr hS', ih (listed.setIfInBounds j true) a' w' hfree' (ready_mono hr (Ne.symm hji)) h3.1 hS' ?_⟩
    rw [Array.setIfInBounds_comm _ _ hji]
    exact h3.2.2
theorem op_at {i : Nat} {oi : Oper} {rest : List Oper} (h : ops.toList.drop i = oi :: rest) : ops[i]? = some oi := by
 have e : (ops.toList.drop i)[0]? = some oi := by rw [h]; rfl
 rw [List.getElem?_drop] at e
 simpa using e
def okSteps (md : Region.Mode) (ops : Array Oper) (L : Nat) : List (Nat × Bool) → Array Bool → Bool
 | [], listed => Region.ready md ops listed == []
 | (i, true) :: r, listed => Region.free md ops listed i && (Region.ready md ops listed).contains i && decide (i ≠ L) && decide (i < ops.size) && okSteps md ops L r (listed.setIfInBounds i true)
 | (i, false) :: r, listed => (Region.ready md ops listed == [i]) && okSteps md ops L r (listed.setIfInBounds i true)
def wpSeq (P : Program) (md : Region.Mode) (ops : Array Oper) (Q : Exit → Act → World → Prop) (S : World → Prop) (L : Nat) (steps : List (Nat × Bool)) (a : Act) (w : World) : Prop :=
 ∀ listed, (okSteps md ops L steps listed && (Region.noSelect ops && lastOK md ops L)) = true → wpAnyL P md ops Q S L steps.length listed a w
theorem wpL_begin {id : Nat} {a : Act} {w : World} (L : Nat) (S : World → Prop) (steps : List (Nat × Bool)) (hn : ops.size = steps.length) (hk : (okSteps .any ops L steps (Array.replicate ops.size false) && (Region.noSelect ops && lastOK .any ops L)) = true) (hm : P.follows .mixedOrders = true) (hS : S w.drew)
    (h : ∀ os, Hid (os = ops) → S w.drew → wpSeq P .any os Q S L steps a w.drew) : (Code.region id ops true).wp P Q a w := by
 have h2 := h ops rfl hS _ hk
 rw [← hn] at h2
 exact wp_region_any hm (wpAnyL_any _ _ _ _ h2)
variable {os : Array Oper} {steps : List (Nat × Bool)}
theorem wpL_take {i : Nat} (ho : Hid (os = ops)) {oi : Oper} {v : Value} {a : Act} {w : World} (hS : S w) {rest : List Oper} (hi' : ops.toList.drop i = oi :: rest)
    (hQ : ∀ c a w, Q (.panic c) (a.put oi.dst v) w → Q (.panic c) a w) (hy : YieldsIf P ops S oi v a)
    (h : wpSeq P md os Q S L steps (a.put oi.dst v) w) : wpSeq P md os Q S L ((i, true) :: steps) a w := by
 have ho := ho.out
 subst ho
 have hi := op_at hi'
 intro listed hk
 simp only [okSteps, Bool.and_eq_true, decide_eq_true_eq] at hk
 obtain ⟨⟨⟨⟨⟨h2, h3⟩, h5⟩, h6⟩, h7⟩, h1, h4⟩ := hk
 exact wpAnyL_first hi (Region.noSelect_spec h1) hQ h4 h5 h6 steps.length listed a w (Region.free_spec hi h2) (by simpa using h3) hy hS (h _ (by simp only [Bool.and_eq_true]; exact ⟨h7, h1, h4⟩))
theorem wpL_next {i : Nat} (ho : Hid (os = ops)) {oi : Oper} {a : Act} {w : World} {rest : List Oper} (hi' : ops.toList.drop i = oi :: rest)
    (hw : Region.wanted oi (yielded ops a.tmps) = true)
    (h : ∀ K : Act → World → Prop, (∀ a w, S w → wpSeq P md os Q S L steps a w → K a w) → OWp P oi a w K Q) : wpSeq P md os Q S L ((i, false) :: steps) a w := by
 have ho := ho.out
 subst ho
 have hi := op_at hi'
 intro listed hk
 simp only [okSteps, Bool.and_eq_true, beq_iff_eq] at hk
 obtain ⟨⟨hr, h7⟩, h1, h4⟩ := hk
 refine ⟨fun h0 => by rw [hr] at h0; simp at h0, fun j hj => ?_⟩
 rw [hr] at hj
 obtain rfl : j = i := by simpa using hj
 unfold wpOp
 simp only [hi, hw, if_true]
 exact .inl (OWp.out <| h _ fun a w hS h => ⟨.inr hS, h _ (by simp only [Bool.and_eq_true]; exact ⟨h7, h1, h4⟩)⟩)
theorem wpL_skip {i : Nat} (ho : Hid (os = ops)) {oi : Oper} {a : Act} {w : World} (hS : S w) {rest : List Oper} (hi' : ops.toList.drop i = oi :: rest)
    (hw : Region.wanted oi (yielded ops a.tmps) = false)
    (h : wpSeq P md os Q S L steps (a.put oi.dst undef) w) : wpSeq P md os Q S L ((i, false) :: steps) a w := by
 have ho := ho.out
 subst ho
 have hi := op_at hi'
 intro listed hk
 simp only [okSteps, Bool.and_eq_true, beq_iff_eq] at hk
 obtain ⟨⟨hr, h7⟩, h1, h4⟩ := hk
 refine ⟨fun h0 => by rw [hr] at h0; simp at h0, fun j hj => ?_⟩
 rw [hr] at hj
 obtain rfl : j = i := by simpa using hj
 unfold wpOp
 simp only [hi, hw, Bool.false_eq_true, if_false]
 exact ⟨.inr hS, h _ (by simp only [Bool.and_eq_true]; exact ⟨h7, h1, h4⟩)⟩
theorem wpL_last (ho : Hid (os = ops)) {oi : Oper} {a : Act} {w : World} {rest : List Oper} (hi' : ops.toList.drop L = oi :: rest)
    (hw : Region.wanted oi (yielded ops a.tmps) = true)
    (h : ∀ K : Act → World → Prop, (∀ a w, Q .normal a w → K a w) → OWp P oi a w K Q) : wpSeq P md os Q S L [(L, false)] a w := by
 have ho := ho.out
 subst ho
 have hi := op_at hi'
 intro listed hk
 simp only [okSteps, Bool.and_eq_true, beq_iff_eq] at hk
 obtain ⟨⟨hr, hr2⟩, _⟩ := hk
 refine ⟨fun h0 => by rw [hr] at h0; simp at h0, fun j hj => ?_⟩
 rw [hr] at hj
 obtain rfl : j = L := by simpa using hj
 unfold wpOp
 simp only [hi, hw, if_true]
 exact .inl (OWp.out <| h _ fun a w hq => ⟨.inl (by trivial), hr2, hq⟩)
theorem wpL_end {a : Act} {w : World} (h : Q .normal a w) : wpSeq P md os Q S L [] a w := by
 intro listed hk
 simp only [okSteps, Bool.and_eq_true, beq_iff_eq] at hk
 exact ⟨hk.1, h⟩
theorem yl {o : Oper} {v : Value} {a : Act} (hw : Region.wanted o (yielded ops a.tmps) = true) (h : ∀ w, S w → (execOp a.eval o).run P w = .ok (.value v) w) : YieldsIf P ops S o v a := .inl ⟨hw, h⟩
theorem yn {o : Oper} {a : Act} (hw : Region.wanted o (yielded ops a.tmps) = false) : YieldsIf P ops S o undef a := .inr ⟨hw, rfl⟩
theorem yl_move {o : Oper} {a : Act} (hw : Region.wanted o (yielded ops a.tmps) = true) (x : Operand) (ho : o.op = .move x) : YieldsIf P ops S o (a.eval x) a :=
 yl hw fun w _ => by unfold execOp; simp [ho]
theorem yl_nil {o : Oper} {a : Act} (hw : Region.wanted o (yielded ops a.tmps) = true) (x : Operand) (ho : o.op = .nilCheck x) (p : Addr) (hx : a.eval x = .pointer (some p)) : YieldsIf P ops S o (.pointer (some p)) a :=
 yl hw fun w _ => by unfold execOp; simp [ho, hx]
theorem yl_load {o : Oper} {a : Act} (hw : Region.wanted o (yielded ops a.tmps) = true) (ty : TypeId) (x : Operand) (ho : o.op = .load ty x) (p : Addr) (hx : a.eval x = .pointer (some p)) (d : TypeDesc) (hu : P.underlying ty = some d)
    (hd : (match d with | .struct _ => true | .array _ _ => true | _ => false) = false) (v : Value) (hS : ∀ w, S w → w.cell? p = some v) : YieldsIf P ops S o v a :=
 yl hw fun w h => by
  have hl : (load p).run P w = .ok v w := by simp [load, Sem.run, hS w h]
  unfold execOp
  cases d <;> simp_all [Instr.loadAt, Instr.sureAddr, loadVar, isAgg, run_underlying hu]
theorem yl_load_row {o : Oper} {a : Act} (hw : Region.wanted o (yielded ops a.tmps) = true) (ty : TypeId) (x : Operand) (ho : o.op = .load ty x) (g : Nat) (hx : a.eval x = .pointer (some ⟨g, 0, none⟩)) (t : TypeId) (cs : Array Value) (fr : Nat × Nat) (d : TypeDesc)
    (hu : P.underlying ty = some d) (hd : d.isRow = true) (hi : (P.info? ty).map (·.size) = some cs.size) (hS : ∀ w, S w → w.heap[g]? = some (.cells cs t fr)) : YieldsIf P ops S o (.agg cs) a :=
 yl hw fun w h => by
  have hl := run_loadVar_row (P := P) w g t ty cs fr d (hS w h) hu (by cases d <;> first | rfl | cases hd) hi
  unfold execOp
  simp [ho, hx, Instr.loadAt, Instr.sureAddr, hl]
end
theorem nrm : (∀ (t : Array Value) (s) (d : Tmp) (v : Value), Act.put ⟨t, s⟩ (some d) v = ⟨t.setIfInBounds d v, s⟩) ∧ (∀ (a : Act) (v : Value), Act.put a none v = a) ∧
    (∀ (a : Act) (t : Tmp), a.eval (.tmp t) = a.tmps.getD t undef) ∧ (∀ (a : Act) (v : Value), a.eval (.const v) = v) ∧ (∀ (a : Act) (g), a.eval (.global g) = .pointer (some ⟨g, 0, none⟩)) ∧ (∀ (a : Act) (f), a.eval (.func f) = .func (.func f) #[] #[]) ∧
    (∀ (l : List Value) (i : Nat) (v : Value), l.toArray.setIfInBounds i v = (l.set i v).toArray) ∧ (∀ (x : Value) (l : List Value) (v : Value), (x :: l).set 0 v = v :: l) ∧ (∀ (x : Value) (l : List Value) (i : Nat) (v : Value), (x :: l).set (i + 1) v = x :: l.set i v) ∧
    (∀ (a : Array Value) (i : Nat) (d : Value), a.getD i d = a[i]?.getD d) ∧ (∀ (l : List Value) (i : Nat), l.toArray[i]? = l[i]?) ∧ (∀ (x : Value) (l : List Value), (x :: l)[0]? = some x) ∧ (∀ (x : Value) (l : List Value) (i : Nat), (x :: l)[i + 1]? = l[i]?) ∧ (∀ (x d : Value), (some x).getD d = x) :=
 ⟨fun _ _ _ _ => rfl, fun _ _ => rfl, fun _ _ => rfl, fun _ _ => rfl, fun _ _ => rfl, fun _ _ => rfl, fun _ _ _ => by simp, fun _ _ _ => rfl, fun _ _ _ _ => rfl, fun _ _ _ => by simp, fun _ _ => by simp, fun _ _ => rfl, fun _ _ _ => rfl, fun _ _ => rfl⟩
end Go.Hg
namespace Go.Hg
open Go.RowKit
theorem seps_pick : ∀ (L M : List SP), M.Sublist L → ∀ h, seps L h → seps M h := by
 intro L M s
 induction s with
 | slnil => exact fun h H => H
 | cons P _ ih => exact fun h H => ih h (sep_tail H)
 | cons_cons P _ ih => exact fun h H => sep_mono H (fun _ p => p) ih
theorem At.weak {w0 w : World} {L M : List SP} (H : At w0 L w) (s : M.Sublist L) : At w0 M w := H.imp (seps_pick L M s)
def mask : List Bool → List SP → List SP
 | true :: m, P :: L => P :: mask m L
 | false :: m, _ :: L => mask m L
 | _, _ => []
def maskR : List Bool → List SP → List SP
 | true :: m, P :: L => P :: maskR m L
 | false :: m, _ :: L => maskR m L
 | [], L => L
 | _ :: _, [] => []
theorem mask_sub : ∀ (m : List Bool) (L : List SP), (mask m L).Sublist L
 | true :: m, P :: L => (mask_sub m L).cons_cons P
 | false :: m, P :: L => (mask_sub m L).cons P
 | [], L => by simp [mask]
 | _ :: _, [] => by simp [mask]
theorem maskR_sub : ∀ (m : List Bool) (L : List SP), (maskR m L).Sublist L
 | true :: m, P :: L => (maskR_sub m L).cons_cons P
 | false :: m, P :: L => (maskR_sub m L).cons P
 | [], L => List.Sublist.refl _
 | _ :: _, [] => by simp [maskR]
theorem At.mask {w0 w : World} {L : List SP} (H : At w0 L w) (m : List Bool) : At w0 (Hg.mask m L) w := H.weak (mask_sub m L)
theorem At.maskR {w0 w : World} {L : List SP} (H : At w0 L w) (m : List Bool) : At w0 (Hg.maskR m L) w := H.weak (maskR_sub m L)
section
variable {P : Program} {o : Oper} {a : Act} {w w0 : World} {L : List SP} {K : Act → World → Prop} {Q : Exit → Act → World → Prop}
theorem wp_run {v : Value} {w' : World} (hr : (execOp a.eval o).run P w = .ok (.value v) w') (h : K (a.put o.dst v) w') : OWp P o a w K Q := by
 refine owp ?_
 unfold Oper.wp
 rw [hr]
 exact h
theorem wp_call (f : FuncId) (args : Array Operand) (ts : Array TypeId) (ho : o.op = .call { callee := .value (.func f), args := args, argTypes := ts }) {fn : Func} (hf : P.funcs[f]? = some fn)
    (hb : fn.body.isSome = true) (hn : (fn.name == "runtime.NumGoroutine") = false)
    (h : Calls P f (args.map a.eval) w fun | .returned v, w'' => K (a.put o.dst v) w'' | _, _ => False) : OWp P o a w K Q := by
 refine owp ?_
 unfold Oper.wp execOp
 have hb2 : fn.body.isNone = false := by cases h2 : fn.body <;> simp_all
 simp only [ho, resolve, Act.eval, Deferred.ofValue, Sem.run_bind, Sem.run_pure, Result.andThen_ok, invoke, callFunc, program, Sem.run, hf, hn, hb2, Bool.false_eq_true, if_false]
 simp only [Array.empty_append, Array.append_empty, Oper.upon]
 refine h.mono fun e w'' he => ?_
 cases e with
 | returned v => exact he
 | panicked c => exact he.elim
 | outgrown => exact he.elim
theorem wp_alloc_sl (t : TypeId) (ho : o.op = .alloc t) {z : Value} {n by_ : Nat} (hi : (P.info? t).map (fun i => (i.zero, i.size, i.bytes)) = some (some z, n, by_)) (H : At w0 L w)
    (h : ∀ b w', At w0 (raw b z.cells t :: L) w' → Below w.heap.size w w' → K (a.put o.dst (.pointer (some ⟨b, 0, none⟩))) w') : OWp P o a w K Q := by
 refine owp ?_
 obtain ⟨i, hi, hz, _, _⟩ := info_of hi
 have h2 := h _ _ (H.alloc (.cells z.cells t)) ((Below.refl _ _).alloc (Nat.le_refl _) _)
 unfold Oper.wp execOp
 simp only [ho, Instr.alloc, zeroValue, typeInfo, newVar, newRow, Sem.run_bind]
 simp [hi, hz]
 exact h2
theorem wp_box_sl (t : TypeId) (x : Operand) (ho : o.op = .box t x) {v : Value} (hx : a.eval x = v) (H : At w0 L w)
    (h : ∀ b w', At w0 (raw b v.cells t :: L) w' → Below w.heap.size w w' → K (a.put o.dst (.pointer (some ⟨b, 0, none⟩))) w') : OWp P o a w K Q := by
 refine owp ?_
 have h2 := h _ _ (H.alloc (.cells v.cells t)) ((Below.refl _ _).alloc (Nat.le_refl _) _)
 unfold Oper.wp execOp
 simp only [ho, hx, Instr.box, newVar, newRow, Sem.run_bind]
 simp
 exact h2
theorem wp_buildSlice_sl (t : TypeId) (x : Operand) (ho : o.op = .buildSlice t 1 #[(0, x)]) {e : TypeId} {z v : Value} {n by_ : Nat} (ht : P.underlying t = some (.slice e)) (hi : (P.info? e).map (fun i => (i.zero, i.size, i.bytes)) = some (some z, n, by_))
    (hzs : z.cells.size = n) (hx : a.eval x = v) (hv : v.cells.size = n) (h0 : n ≠ 0) (hmax : n ≤ 16777216) (H : At w0 L w)
    (h : ∀ b w', At w0 (raw b v.cells e :: L) w' → Below w.heap.size w w' → K (a.put o.dst (.slice (some ⟨b, 0, none⟩) 1 1)) w') : OWp P o a w K Q := by
 refine owp ?_
 obtain ⟨i, hi, hz, hs, _⟩ := info_of hi
 exact wp_buildSlice_one t x ho ht hi hz (by omega) hx (by omega) (by omega) (by omega) (h _ _ (H.alloc _) ((Below.refl _ _).alloc (Nat.le_refl _) _))
theorem wp_buildSlice0_sl (t : TypeId) (ho : o.op = .buildSlice t 0 #[]) {e : TypeId} {z : Value} {n by_ : Nat} (ht : P.underlying t = some (.slice e)) (hi : (P.info? e).map (fun i => (i.zero, i.size, i.bytes)) = some (some z, n, by_)) (H : At w0 L w)
    (h : ∀ b w', At w0 (raw b #[] e :: L) w' → Below w.heap.size w w' → K (a.put o.dst (.slice (some ⟨b, 0, none⟩) 0 0)) w') : OWp P o a w K Q := by
 refine owp ?_
 obtain ⟨i, hi, hz, hs, _⟩ := info_of hi
 exact wp_buildSlice_none t ho ht hi (h _ _ (H.alloc _) ((Below.refl _ _).alloc (Nat.le_refl _) _))
theorem wp_load_sl (ty : TypeId) (x : Operand) (ho : o.op = .load ty x) {p : Addr} (hx : a.eval x = .pointer (some p)) {d : TypeDesc} (hu : P.underlying ty = some d)
    (hd : (match d with | .struct _ => true | .array _ _ => true | _ => false) = false) {v : Value} (hc : w.cell? p = some v) (h : K (a.put o.dst v) w) : OWp P o a w K Q := by
 refine owp ?_
 have hl : (load p).run P w = .ok v w := by simp [load, Sem.run, hc]
 unfold Oper.wp execOp
 cases d <;> simp_all [Instr.loadAt, Instr.sureAddr, loadVar, isAgg, run_underlying hu, Oper.upon]
def oneType (P : Program) (ty : TypeId) : Bool := match P.underlying ty with | some (.struct _) => false | some (.array _ _) => false | some _ => true | none => false
def rowType (P : Program) (ty : TypeId) : Bool := match P.underlying ty with | some (.struct _) => true | some (.array _ _) => true | _ => false
theorem oneType_spec {ty : TypeId} (h : oneType P ty = true) : ∃ d, P.underlying ty = some d ∧ (match d with | .struct _ => true | .array _ _ => true | _ => false) = false := by
 unfold oneType at h
 cases hu : P.underlying ty with
 | none => simp [hu] at h
 | some d => exact ⟨d, rfl, by cases d <;> simp_all⟩
theorem rowType_spec {ty : TypeId} (h : rowType P ty = true) : ∃ d, P.underlying ty = some d ∧ d.isRow = true := by
 unfold rowType at h
 cases hu : P.underlying ty with
 | none => simp [hu] at h
 | some d => exact ⟨d, rfl, by cases d <;> simp_all⟩
theorem wp_get (ty : TypeId) (x : Operand) (ho : o.op = .load ty x) {p : Addr} (hx : a.eval x = .pointer (some p)) (hk : oneType P ty = true) {v : Value} (hc : w.cell? p = some v) (h : K (a.put o.dst v) w) : OWp P o a w K Q := by
 refine owp ?_
 obtain ⟨d, hu, hd⟩ := oneType_spec hk
 exact OWp.out <| wp_load_sl ty x ho hx hu (by cases d <;> first | rfl | cases hd) hc h
theorem yl_get {ops : Array Oper} {S : World → Prop} (hw : Region.wanted o (yielded ops a.tmps) = true) (ty : TypeId) (x : Operand) (ho : o.op = .load ty x) {p : Addr} (hx : a.eval x = .pointer (some p)) (hk : oneType P ty = true) {v : Value} (hS : ∀ w, S w → w.cell? p = some v) : YieldsIf P ops S o v a := by
 obtain ⟨d, hu, hd⟩ := oneType_spec hk
 exact yl_load hw ty x ho p hx d hu (by cases d <;> first | rfl | cases hd) v hS
theorem wp_store_sl (ty : TypeId) (x y : Operand) (ho : o.op = .store ty x y) {b off : Nat} {v : Value} (hx : a.eval x = .pointer (some ⟨b, off, none⟩)) (hy : a.eval y = v) (hi : (P.info? ty).map (·.size) = some 1) (h1 : v.oneCell' = true)
    (k : Nat) {cs : Array Value} {t : TypeId} (H : At w0 L w) (hk : L[k]? = some (raw b cs t)) (hlt : off < cs.size)
    (h : ∀ w', At w0 (L.set k (raw b (cs.setIfInBounds off v) t)) w' → K (a.put o.dst undef) w') : OWp P o a w K Q := by
 refine owp ?_
 have hb := H.heap k hk
 refine wp_store_cell ty x y ho hx hy hi h1 (u := cs[off]) ?_ (raw_free hb off) (h _ (H.setAt k off hk v))
 rw [raw_cell hb off]
 simp [hlt]
theorem wp_store_row_sl (ty : TypeId) (x y : Operand) (ho : o.op = .store ty x y) {b : Nat} {cells : Array Value} (hx : a.eval x = .pointer (some ⟨b, 0, none⟩)) (hy : a.eval y = .agg cells) (hi : (P.info? ty).map (·.size) = some cells.size) (h1 : ∀ u ∈ cells.toList, u.oneCell' = true)
    (k : Nat) {cs : Array Value} {t : TypeId} (H : At w0 L w) (hk : L[k]? = some (raw b cs t)) (hs : cs.size = cells.size)
    (h : ∀ w', At w0 (L.set k (raw b cells t)) w' → K (a.put o.dst undef) w') : OWp P o a w K Q := by
 refine owp ?_
 have hb := H.heap k hk
 refine wp_store_row ty x y ho b cells hx hy t cs hb hi hs (Array.all_eq_true_iff_forall_mem.2 fun u hu => h1 u (by simpa using hu)) (h _ ?_)
 have H' := (H.pull k hk).setRow (cs' := cells)
 refine H'.perm ?_
 obtain ⟨hl, _⟩ := List.getElem?_eq_some_iff.1 hk
 have h2 := perm_erase (L.set k (raw b cells t)) k (raw b cells t) (by simp [hl])
 rwa [List.eraseIdx_set_eq] at h2
theorem wp_store_mid_sl (ty : TypeId) (x y : Operand) (ho : o.op = .store ty x y) {b off : Nat} {cells : List Value} (hx : a.eval x = .pointer (some ⟨b, off, none⟩)) (hy : a.eval y = .agg cells.toArray) (hi : (P.info? ty).map (·.size) = some cells.length) (h1 : ∀ u ∈ cells, u.oneCell' = true)
    (k : Nat) {cs : Array Value} {t : TypeId} (H : At w0 L w) (hk : L[k]? = some (raw b cs t)) (hs : off + cells.length ≤ cs.size)
    (h : ∀ w', At w0 (L.set k (raw b (cs.toList.take off ++ cells ++ cs.toList.drop (off + cells.length)).toArray t)) w' → K (a.put o.dst undef) w') : OWp P o a w K Q := by
 refine owp ?_
 have hb := H.heap k hk
 have hst := run_storeCells_at P b off t cells 0 cs w hb (by simpa using hs) h1
 simp only [Nat.add_zero] at hst
 have H' := (H.pull k hk).setRow (cs' := (cs.toList.take off ++ cells ++ cs.toList.drop (off + cells.length)).toArray)
 have H2 : At w0 (L.set k (raw b (cs.toList.take off ++ cells ++ cs.toList.drop (off + cells.length)).toArray t)) (w.setRow b (cs.toList.take off ++ cells ++ cs.toList.drop (off + cells.length)).toArray) := by
  refine H'.perm ?_
  obtain ⟨hl, _⟩ := List.getElem?_eq_some_iff.1 hk
  have h2 := perm_erase (L.set k (raw b (cs.toList.take off ++ cells ++ cs.toList.drop (off + cells.length)).toArray t)) k (raw b (cs.toList.take off ++ cells ++ cs.toList.drop (off + cells.length)).toArray t) (by simp [hl])
  rwa [List.eraseIdx_set_eq] at h2
 have h3 := h _ H2
 unfold Oper.wp execOp
 cases hq : P.info? ty with
 | none => simp [hq] at hi
 | some i =>
  have hsz : i.size = cells.length := by simpa [hq] using hi
  simp only [ho, Instr.storeAt, hx, hy, Instr.sureAddr, storeVar, sizeOf, typeInfo, Sem.run_bind, Sem.run_pure, Result.andThen_ok]
  simp only [Sem.run, program, hq, Sem.run_pure, Result.andThen_ok, Value.cells, List.size_toArray, hsz, ne_eq, not_true_eq_false, if_false]
  simp [hst, hq, hsz, Oper.upon]
  simpa using h3
theorem wp_mid (ty : TypeId) (x : Operand) (ho : o.op = .load ty x) {b off : Nat} (hx : a.eval x = .pointer (some ⟨b, off, none⟩)) (cells : List Value) (hk : rowType P ty = true) (hi : (P.info? ty).map (·.size) = some cells.length) (hr : w.rangeAt b off cells)
    (h : K (a.put o.dst (.agg cells.toArray)) w) : OWp P o a w K Q := by
 obtain ⟨d, hu, hd⟩ := rowType_spec hk
 exact owp <| wp_load_mid ty x ho b off hx cells d hr hu hd hi h
end
def bl (l : List UInt8) : List Value := l.map fun b => Value.int .u8 b.toNat
def bv (l : List UInt8) : Array Value := (bl l).toArray
theorem bl_length (l : List UInt8) : (bl l).length = l.length := by simp [bl]
theorem bv_size (l : List UInt8) : (bv l).size = l.length := by simp [bv, bl]
theorem one_bl (l : List UInt8) : ∀ u ∈ bl l, u.oneCell' = true := by
 intro u hu
 simp [bl] at hu
 obtain ⟨b, _, rfl⟩ := hu
 rfl
section
variable {P : Program} {o : Oper} {ρ : Operand → Value} {w : World} {t e : TypeId} {n : Nat} {a b : List UInt8} {x y : Operand} {yt : TypeId}
theorem guard_bytes (op : BinOp) (hg : P.eqGuardType P.depth t = false) (as bs : Array Value) : (eqGuard op t x y (.agg as) (.agg bs)).run P w = .ok () w := by
 unfold eqGuard
 cases op <;> simp [hg, program, Sem.run, Sem.bind, bind, pure]
end
def elem (size : Nat) (xs : List Value) (i : Nat) : List Value := (xs.drop (i * size)).take size
theorem At.rows_elem {w0 w : World} {L : List SP} {e : TypeId} {size n : Nat} {g off cap : Nat} {xs : List Value} (H : At w0 (rows e size (.slice (some ⟨g, off, none⟩) n cap) n xs :: L) w) {i : Nat} (hi : i < n) : w.rangeAt g (off + i * size) (elem size xs i) := by
 intro j v hv
 have hl := H.rows_length
 have h1 : (i + 1) * size ≤ n * size := Nat.mul_le_mul_right size hi
 rw [Nat.add_mul, Nat.one_mul] at h1
 rcases H.rows_value with ⟨h, _⟩ | ⟨g', off', cap', h, _, _, hc⟩
 · cases h
 · cases h
   unfold elem at hv
   rw [List.getElem?_take] at hv
   split at hv
   · rw [List.getElem?_drop] at hv
     rw [Nat.add_assoc, hc _ (by omega)]
     exact hv
   · cases hv
end Go.Hg
namespace Go.Hg
open Go.RowKit
theorem bits_and_low (z : Int) (j : Nat) (hj : j ≤ 62) : bits .and .i64 z (2 ^ j - 1) = z % 2 ^ j := by
 have hp : (2 : Nat) ^ j ≤ 2 ^ 62 := Nat.pow_le_pow_right (by decide) hj
 have hpos : 0 < (2 : Nat) ^ j := Nat.two_pow_pos j
 have hc : ((2 : Int) ^ j - 1) = ((2 ^ j - 1 : Nat) : Int) := by
  rw [Int.natCast_sub hpos]; simp
 have hm : (2 ^ j - 1) % 2 ^ 64 = 2 ^ j - 1 := Nat.mod_eq_of_lt (by omega)
 have hcast : ((2 ^ j : Nat) : Int) = (2 : Int) ^ j := by simp
 have hm2 : (2 ^ j - 1) % 2 ^ IntKind.i64.bits = 2 ^ j - 1 := hm
 simp only [bits, hc, BitVec.ofInt_natCast, BitVec.toNat_and, BitVec.toNat_ofNat, BitVec.toNat_ofInt, hm2, Nat.and_two_pow_sub_one_eq_mod]
 have hb : ((2 ^ IntKind.i64.bits : Nat) : Int) = 18446744073709551616 := rfl
 rw [hb]
 have h1 : ((z % 18446744073709551616).toNat % 2 ^ j : Nat) < 2 ^ j := Nat.mod_lt _ hpos
 have h2 : (((z % 18446744073709551616).toNat % 2 ^ j : Nat) : Int) = z % 2 ^ j := by
  rw [Int.natCast_emod, hcast, Int.toNat_of_nonneg (Int.emod_nonneg _ (by decide))]
  exact Int.emod_emod_of_dvd z ⟨2 ^ (64 - j), by rw [← Int.pow_add, show j + (64 - j) = 64 from by omega]; rfl⟩
 rw [← h2, IntKind.wrap_i64]
 omega
theorem raw_at {w : World} {b j : Nat} {cs : Array Value} {t : TypeId} {fr : Nat × Nat} {v : Value} {rest : List Value} (h : w.heap[b]? = some (.cells cs t fr)) (hd : cs.toList.drop j = v :: rest) : w.cell? ⟨b, j, none⟩ = some v := by
 rw [cell_of_row w b j cs t fr h]
 have e : (cs.toList.drop j)[0]? = some v := by rw [hd]; rfl
 rw [List.getElem?_drop] at e
 simpa using e
end Go.Hg
namespace Go.Hg
open Go.RowKit
theorem bits_and_low_u (z : Int) (j : Nat) (hj : j ≤ 62) : bits .and .u64 z (2 ^ j - 1) = z % 2 ^ j := by
 have hp : (2 : Nat) ^ j ≤ 2 ^ 62 := Nat.pow_le_pow_right (by decide) hj
 have hpos : 0 < (2 : Nat) ^ j := Nat.two_pow_pos j
 have hc : ((2 : Int) ^ j - 1) = ((2 ^ j - 1 : Nat) : Int) := by
  rw [Int.natCast_sub hpos]; simp
 have hm : (2 ^ j - 1) % 2 ^ 64 = 2 ^ j - 1 := Nat.mod_eq_of_lt (by omega)
 have hcast : ((2 ^ j : Nat) : Int) = (2 : Int) ^ j := by simp
 have hm2 : (2 ^ j - 1) % 2 ^ IntKind.u64.bits = 2 ^ j - 1 := hm
 simp only [bits, hc, BitVec.ofInt_natCast, BitVec.toNat_and, BitVec.toNat_ofNat, BitVec.toNat_ofInt, hm2, Nat.and_two_pow_sub_one_eq_mod]
 have hb : ((2 ^ IntKind.u64.bits : Nat) : Int) = 18446744073709551616 := rfl
 rw [hb]
 have h1 : ((z % 18446744073709551616).toNat % 2 ^ j : Nat) < 2 ^ j := Nat.mod_lt _ hpos
 have h2 : (((z % 18446744073709551616).toNat % 2 ^ j : Nat) : Int) = z % 2 ^ j := by
  rw [Int.natCast_emod, hcast, Int.toNat_of_nonneg (Int.emod_nonneg _ (by decide))]
  exact Int.emod_emod_of_dvd z ⟨2 ^ (64 - j), by rw [← Int.pow_add, show j + (64 - j) = 64 from by omega]; rfl⟩
 rw [← h2, IntKind.wrap_u64]
 omega
end Go.Hg
namespace Go.Hg
open Go.ChangeShapes Go.WideShapes Go.ChangeAt Go.RowKit
def IntRow (k : IntKind) (w : World) (a : Option Addr) (len : Nat) : Prop :=
 (len : Int) ≤ 9223372036854775807 ∧ ∃ b off, ∀ i : Nat, i < len → a = some ⟨b, off, none⟩ ∧ ∃ x, w.cell? ⟨b, off + i, none⟩ = some (.int k x) ∧ (Lit.int k x).wf = true
theorem intRow_of {k : IntKind} {w : World} {a : Option Addr} {len cap : Nat} {zs : List Int} (h : (a = none ∧ len = 0) ∨ ∃ x, a = some x ∧ len ≤ cap ∧ cap ≤ maxLen ∧ zs.length = cap ∧ (∀ i, i < zs.length → w.cell? (x.add i) = some (.int k (zs.getD i 0))) ∧ ∀ n ∈ zs, (Lit.int k n).wf = true) : IntRow k w a len := by
 rcases h with ⟨rfl, rfl⟩ | ⟨x, rfl, hl, hm, hz, hc, hw⟩
 · exact ⟨by omega, 0, 0, fun i hi => by omega⟩
 · refine ⟨by simp only [maxLen] at hm; omega, x.block, x.off, fun i hi => ?_⟩
   have h0 := hc 0 (by omega)
   obtain ⟨b, off, spot⟩ := x
   have hspot : spot = none := by simpa [Addr.add] using World.cell?_spot h0
   subst hspot
   have h1 := hc i (by omega)
   rw [Addr.add_lit] at h1
   refine ⟨rfl, zs.getD i 0, h1, hw _ ?_⟩
   rw [List.getD_eq_getElem?_getD, List.getElem?_eq_getElem (by omega)]
   exact List.getElem_mem (by omega)
end Go.Hg
namespace Go.Hg
open Go.RowKit
theorem run_buildSlice_two {P : Program} {t e : TypeId} {i : TypeInfo} {z : Value} (ht : P.underlying t = some (.slice e)) (hi : P.info? e = some i) (hz : i.zero = some z) (h1 : i.size = 1) (u v : Value) (hu : u.oneCell' = true) (hv : v.oneCell' = true) (w : World) :
    (Instr.buildSlice t 2 #[(0, u), (1, v)]).run P w = .ok (.slice (some ⟨w.heap.size, 0, none⟩) 2 2) (w.alloc (.cells #[u, v] e)) := by
 have cu : u.cells = #[u] := by cases u <;> first | rfl | simp [Value.oneCell'] at hu
 have cv : v.cells = #[v] := by cases v <;> first | rfl | simp [Value.oneCell'] at hv
 simp only [Instr.buildSlice, Sem.run_bind, run_underlying ht, Result.andThen_ok, sizeOf, typeInfo, zeroValue]
 simp [hi, hz, h1, Sem.run_pure, Instr.fill, cu, cv, newRow]
 congr 2
 apply Array.ext'
 simp [show Array.range 2 = #[0, 1] from rfl]
section
variable {P : Program} {o : Oper} {a : Act} {w w0 : World} {L : List SP} {K : Act → World → Prop} {Q : Exit → Act → World → Prop}
theorem wp_buildSlice2_sl (t : TypeId) (x y : Operand) (ho : o.op = .buildSlice t 2 #[(0, x), (1, y)]) {e : TypeId} {z : Value} {by_ : Nat} {u v : Value} (ht : P.underlying t = some (.slice e)) (hi : (P.info? e).map (fun i => (i.zero, i.size, i.bytes)) = some (some z, 1, by_))
    (hx : a.eval x = u) (hy : a.eval y = v) (hu : u.oneCell' = true) (hv : v.oneCell' = true) (H : At w0 L w)
    (h : ∀ b w', At w0 (raw b #[u, v] e :: L) w' → Below w.heap.size w w' → K (a.put o.dst (.slice (some ⟨b, 0, none⟩) 2 2)) w') : OWp P o a w K Q := by
 obtain ⟨i, hi, hz, hs, _⟩ := info_of hi
 have h2 := h _ _ (H.alloc (.cells #[u, v] e)) ((Below.refl _ _).alloc (Nat.le_refl _) _)
 refine owp ?_
 unfold Oper.wp execOp
 simp only [ho, List.map_toArray, List.map_cons, List.map_nil, hx, hy, Sem.run_bind, run_buildSlice_two ht hi hz hs u v hu hv, Result.andThen_ok, Sem.run_pure]
 exact h2
end
end Go.Hg
namespace Go.Hg
open Go.RowKit
structure El {α : Type} (P : Program) (e : TypeId) (size by_ : Nat) (c : α → List Value) : Prop where
 info : ∃ z, (P.info? e).map (fun i => (i.zero, i.size, i.bytes)) = some (some z, size, by_) ∧ z.cells.size = size
 len : ∀ x, (c x).length = size
 one : ∀ x, ∀ u ∈ c x, u.oneCell' = true
def cl {α : Type} (c : α → List Value) (xs : List α) : List Value := xs.flatMap c
def lrow {α : Type} (e : TypeId) (size : Nat) (c : α → List Value) (v : Value) (xs : List α) : SP := rows e size v xs.length (cl c xs)
section
variable {α : Type} {P : Program} {e : TypeId} {size by_ : Nat} {c : α → List Value} {w w0 : World} {L : List SP}
theorem cl_append (c : α → List Value) (xs ys : List α) : cl c (xs ++ ys) = cl c xs ++ cl c ys := List.flatMap_append
theorem El.cl_length (E : El P e size by_ c) (xs : List α) : (cl c xs).length = xs.length * size := by
 induction xs with
 | nil => simp [cl]
 | cons x xs ih =>
  have h := E.len x
  have : cl c (x :: xs) = c x ++ cl c xs := rfl
  rw [this, List.length_append, ih, h, List.length_cons, Nat.add_mul, Nat.one_mul, Nat.add_comm]
theorem El.one_cl (E : El P e size by_ c) (xs : List α) : ∀ u ∈ cl c xs, u.oneCell' = true := fun u hu => by
 obtain ⟨x, _, h⟩ := List.mem_flatMap.1 hu
 exact E.one x u h
theorem El.cl_elem (E : El P e size by_ c) {xs : List α} {i : Nat} {x : α} (hx : xs[i]? = some x) : elem size (cl c xs) i = c x := by
 unfold elem
 obtain ⟨hi, rfl⟩ := List.getElem?_eq_some_iff.1 hx
 have h1 : xs = xs.take i ++ (xs[i] :: xs.drop (i + 1)) := by rw [List.getElem_cons_drop, List.take_append_drop]
 have h2 : cl c xs = cl c (xs.take i) ++ (c xs[i] ++ cl c (xs.drop (i + 1))) := by
  conv => lhs; rw [h1, cl_append]
  rfl
 have h3 : (cl c (xs.take i)).length = i * size := by rw [E.cl_length, List.length_take, Nat.min_eq_left (by omega)]
 have h4 := E.len xs[i]
 rw [h2, ← h3, List.drop_left, ← h4, List.take_left]
theorem At.lrow_slice {v : Value} {xs : List α} (H : At w0 (lrow e size c v xs :: L) w) : ∃ a q, v = .slice a xs.length q := At.rows_slice H
theorem lrow_at (E : El P e size by_ c) {xs : List α} {g off cap i : Nat} {x : α} (H : At w0 L w) (k : Nat) (hk : L[k]? = some (lrow e size c (.slice (some ⟨g, off, none⟩) xs.length cap) xs)) (hx : xs[i]? = some x) : w.rangeAt g (off + i * size) (c x) := by
 rw [← E.cl_elem hx]
 exact At.rows_elem (H.pull k hk) (List.getElem?_eq_some_iff.1 hx).1
theorem lrow_place {xs : List α} {a : Option Addr} {q : Nat} (H : At w0 L w) (k : Nat) (hk : L[k]? = some (lrow e size c (.slice a xs.length q) xs)) (h0 : 0 < xs.length) : ∃ g off, a = some ⟨g, off, none⟩ := by
 rcases At.rows_value (H.pull k hk) with ⟨_, h, _⟩ | ⟨g, off, cap, h, _⟩
 · omega
 · cases h; exact ⟨g, off, rfl⟩
theorem lrow_nil (H : At w0 L w) (c : α → List Value) (e : TypeId) (size : Nat) : At w0 (lrow e size c (.slice none 0 0) [] :: L) w := H.rows_nil e size
theorem lrow_src (E : El P e size by_ c) (H : At w0 L w) (k : Nat) {x : Value} {ys : List α} (hk : L[k]? = some (lrow e size c x ys)) : Src P size w x ys.length (cl c ys) := by
 have hl := E.cl_length ys
 rcases At.rows_value (H.pull k hk) with ⟨rfl, h0, h1⟩ | ⟨g, off, cap, rfl, _, _, hc⟩
 · rw [h0, h1]; exact Src.none
 · refine Src.some hl (fun j u hj => ?_) (E.one_cl ys)
   have hlt := (List.getElem?_eq_some_iff.1 hj).1
   rw [Addr.add_lit, hc j (by omega)]
   exact hj
variable {o : Oper} {a : Act} {K : Act → World → Prop} {Q : Exit → Act → World → Prop}
theorem wp_lnew (E : El P e size by_ c) (t : TypeId) (ht : P.underlying t = some (.slice e)) (ho : o.op = .buildSlice t 0 #[]) (H : At w0 L w)
    (h : ∀ b w', At w0 (lrow e size c (.slice (some ⟨b, 0, none⟩) 0 0) [] :: L) w' → K (a.put o.dst (.slice (some ⟨b, 0, none⟩) 0 0)) w') : OWp P o a w K Q := by
 obtain ⟨z, hi, _⟩ := E.info
 exact wp_buildSlice0_sl _ ho ht hi H fun b w' H2 _ => h _ w' (At.rows_new H2 (n := 0) (cap := 0) (xs := []) (Nat.le_refl _) (by simp [maxLen]) (by simp) (by simp))
theorem wp_lapp (E : El P e size by_ c) (t t2 : TypeId) (ht : P.underlying t = some (.slice e)) (ht2 : SrcType P t2) (s xo : Operand) (ho : o.op = .call { callee := .builtin .append, args := #[s, xo], argTypes := #[t, t2] }) {v : Value} (hs : a.eval s = v) {xs ys : List α}
    (H : At w0 (lrow e size c v xs :: L) w) {x : Value} (hxo : a.eval xo = x) (hx : Src P size w x ys.length (cl c ys)) (h63 : xs.length + ys.length ≤ maxLen) (hb : (xs.length + ys.length) * by_ ≤ 140737488355328)
    (h : ∀ b q w', At w0 (lrow e size c (.slice b (xs ++ ys).length q) (xs ++ ys) :: L) w' → K (a.put o.dst (.slice b (xs ++ ys).length q)) w') : OWp P o a w K Q := by
 obtain ⟨z, hi, hzs⟩ := E.info
 obtain ⟨i, hi, hz, hsz, hby⟩ := info_of hi
 refine owp (wp_append_sl (size := size) (v := v) (n := xs.length) (xs := cl c xs) (x := x) (m := ys.length) (news := cl c ys) s xo _ _ ho i z by_ ht ht2 hi hz hsz hby hzs hs H hxo hx h63 hb ?_)
 intro v' w' H2 _
 rw [← List.length_append, ← cl_append] at H2
 obtain ⟨b, q, rfl⟩ := At.rows_slice H2
 exact h b q w' H2
theorem wp_lapp_all (E : El P e size by_ c) (t : TypeId) (ht : P.underlying t = some (.slice e)) (s xo : Operand) (ho : o.op = .call { callee := .builtin .append, args := #[s, xo], argTypes := #[t, t] }) {v : Value} (hs : a.eval s = v) {xs ys : List α}
    (H : At w0 (lrow e size c v xs :: L) w) {x : Value} (hxo : a.eval xo = x) (k : Nat) (hk : L[k]? = some (lrow e size c x ys)) (h63 : xs.length + ys.length ≤ maxLen) (hb : (xs.length + ys.length) * by_ ≤ 140737488355328)
    (h : ∀ b q w', At w0 (lrow e size c (.slice b (xs ++ ys).length q) (xs ++ ys) :: L) w' → K (a.put o.dst (.slice b (xs ++ ys).length q)) w') : OWp P o a w K Q :=
 wp_lapp E t t ht (.inl ⟨_, ht⟩) s xo ho hs H hxo (lrow_src E H (k + 1) (by simpa using hk)) h63 hb h
theorem wp_lapp_one (E : El P e size by_ c) (t : TypeId) (ht : P.underlying t = some (.slice e)) (s xo : Operand) (ho : o.op = .call { callee := .builtin .append, args := #[s, xo], argTypes := #[t, t] }) {v : Value} (hs : a.eval s = v) {xs : List α} {y : α}
    (H : At w0 (lrow e size c v xs :: L) w) {C : Nat} (hxo : a.eval xo = .slice (some ⟨C, 0, none⟩) 1 1) (k : Nat) {cs : Array Value} (hk : L[k]? = some (raw C cs e)) (hy : cs.toList = c y) (h63 : xs.length + 1 ≤ maxLen) (hb : (xs.length + 1) * by_ ≤ 140737488355328)
    (h : ∀ b q w', At w0 (lrow e size c (.slice b (xs ++ [y]).length q) (xs ++ [y]) :: L) w' → K (a.put o.dst (.slice b (xs ++ [y]).length q)) w') : OWp P o a w K Q := by
 refine wp_lapp E t t ht (.inl ⟨_, ht⟩) (ys := [y]) s xo ho hs H hxo ?_ h63 hb h
 have hc := H.heap (k + 1) (by simpa using hk)
 have hl := E.len y
 refine Src.some (by simp [cl, hl]) (fun j u hj => ?_) (E.one_cl _)
 rw [Addr.add_lit, raw_cell hc, Nat.zero_add, ← Array.getElem?_toList, hy]
 simpa [cl] using hj
theorem wp_lbuild (E : El P e size by_ c) (t : TypeId) (ht : P.underlying t = some (.slice e)) (x : Operand) (ho : o.op = .buildSlice t 1 #[(0, x)]) {v : Value} (hx : a.eval x = v) {y : α} (hv : v.cells = (c y).toArray) (h0 : size ≠ 0) (hm : size ≤ 16777216) (H : At w0 L w)
    (h : ∀ b w', At w0 (raw b (c y).toArray e :: L) w' → K (a.put o.dst (.slice (some ⟨b, 0, none⟩) 1 1)) w') : OWp P o a w K Q := by
 obtain ⟨z, hi, hzs⟩ := E.info
 refine wp_buildSlice_sl _ _ ho ht hi hzs hx (by rw [hv]; simpa using E.len y) h0 hm H fun b w' H2 _ => ?_
 rw [hv] at H2
 exact h b w' H2
theorem lrow_cell (E : El P e size by_ c) {xs : List α} {g off cap i j : Nat} {x : α} {v : Value} (H : At w0 L w) (k : Nat) (hk : L[k]? = some (lrow e size c (.slice (some ⟨g, off, none⟩) xs.length cap) xs)) (hx : xs[i]? = some x) (hj : (c x)[j]? = some v) :
    w.cell? ⟨g, off + i * size + j, none⟩ = some v := by
 have h := lrow_at E H k hk hx
 exact h j v hj
end
attribute [irreducible] lrow
def sb (l : List UInt8) : ByteArray := ⟨l.toArray⟩
section
variable {P : Program} {o : Oper} {ρ : Operand → Value} {w : World}
theorem exec_string_of {src dst e : TypeId} {x : Operand} (ho : o.op = .convert src dst x) (hs : P.underlying src = some (.slice e)) (he : P.underlying e = some (.int .u8)) (hd : P.underlying dst = some .string)
    {g off n cap : Nat} {l : List UInt8} (hx : ρ x = .slice (some ⟨g, off, none⟩) n cap) (hl : l.length = n) (hc : w.rangeAt g off (bl l)) : (execOp ρ o).run P w = .ok (.value (.string (sb l))) w := by
 subst hl
 have h := run_convert_bytes_back (P := P) w src dst e ⟨g, off, none⟩ cap l hs he hd (fun j hj => by
  rw [Addr.add_lit]
  exact hc j _ (by simp [bl, List.getElem?_eq_getElem hj]))
 unfold execOp
 simp only [ho, hx, Sem.run_bind, h, Result.andThen_ok, Sem.run_pure]
 rfl
end
end Go.Hg
namespace Go.Hg
open Go.RowKit
section
variable {P : Program} {ops : Array Oper} {Q : Exit → Act → World → Prop} {md : Region.Mode} {S : World → Prop} {ex : List Nat}
def wpAnyM (P : Program) (md : Region.Mode) (ops : Array Oper) (Q : Exit → Act → World → Prop) (S : World → Prop) (ex : List Nat) : Nat → Array Bool → Act → World → Prop
 | 0, listed, a, w => Region.ready md ops listed = [] ∧ Q .normal a w
 | fuel + 1, listed, a, w => (Region.ready md ops listed = [] → Q .normal a w) ∧
     ∀ i ∈ Region.ready md ops listed, wpOp P ops Q i (fun a' w' => (i ∈ ex ∨ w' = w ∨ S w') ∧ wpAnyM P md ops Q S ex fuel (listed.setIfInBounds i true) a' w') a w
theorem wpAnyM_any : ∀ (fuel : Nat) (listed : Array Bool) (a : Act) (w : World), wpAnyM P md ops Q S ex fuel listed a w → wpAny P md ops Q fuel listed a w
 | 0, _, _, _, h => h
 | fuel + 1, _, _, _, h => ⟨h.1, fun i hi => wpOp_mono (fun _ _ h3 => wpAnyM_any fuel _ _ _ h3.2) (h.2 i hi)⟩
theorem wpAnyM_first {i : Nat} {oi : Oper} {v : Value} {T : World → Prop} (hi : ops[i]? = some oi) (hsel : ∀ (j : Nat) (o : Oper) cs b, ops[j]? = some o → o.op ≠ .select cs b)
    (hQ : ∀ c a w, Q (.panic c) (a.put oi.dst v) w → Q (.panic c) a w)
    (hT : ∀ j oj w', ops[j]? = some oj → j ≠ i → (∀ e ∈ oj.after, Region.binds md e = true → e.on ≠ i) → (j ∈ ex ∨ S w') → T w') :
    ∀ (fuel : Nat) (listed : Array Bool) (a : Act) (w : World),
     (∀ j oj, ops[j]? = some oj → j ≠ i → listed.getD j true = false → (∀ e ∈ oj.after, Region.binds md e = true → e.on ≠ i) → oi.apart ops oj = true) →
     i ∈ Region.ready md ops listed → YieldsIf P ops T oi v a → T w →
     wpAnyM P md ops Q S ex fuel (listed.setIfInBounds i true) (a.put oi.dst v) w → wpAnyM P md ops Q S ex (fuel + 1) listed a w := by
 intro fuel
 induction fuel with
 | zero =>
  intro listed a w _ hr hy hS H
  refine ⟨fun h => (by rw [h] at hr; cases hr), fun j hj => ?_⟩
  by_cases hji : j = i
  · subst hji; exact hy.wpOp hi hS ⟨.inr (.inl rfl), H⟩
  · have := ready_mono hj hji
    rw [H.1] at this
    cases this
 | succ fuel ih =>
  intro listed a w hfree hr hy hS H
  refine ⟨fun h => (by rw [h] at hr; cases hr), fun j hj => ?_⟩
  by_cases hji : j = i
  · subst hji; exact hy.wpOp hi hS ⟨.inr (.inl rfl), H⟩
  · have h1 := H.2 j (ready_mono hj hji)
    obtain ⟨hjun, oj, hoj, hall⟩ := mem_ready.1 hj
    have hnot : ∀ e ∈ oj.after, Region.binds md e = true → e.on ≠ i := fun e he hb heq => by
     have h1 := hall e he hb
     have h0 := (mem_ready.1 hr).1
     rw [heq] at h1
     rcases Nat.lt_or_ge i listed.size with h' | h'
     · simp [h'] at h0 h1; rw [h0] at h1; cases h1
     · simp [Array.getElem?_eq_none h'] at h1
    have h2 := wpOp_putIf hoj (hfree j oj hoj hji hjun hnot) (fun cs b => hsel i oi cs b hi) (fun cs b => hsel j oj cs b hoj) hQ hy h1
    have hfree' : ∀ k ok, ops[k]? = some ok → k ≠ i → (listed.setIfInBounds j true).getD k true = false →
        (∀ e ∈ ok.after, Region.binds md e = true → e.on ≠ i) → oi.apart ops ok = true := fun k ok hk hki hun hno => by
     refine hfree k ok hk hki ?_ hno
     by_cases hjk : j = k
     · subst hjk; exact hjun
     · rw [getD_set_ne true hjk] at hun; exact hun
    refine wpOp_mono (fun a' w' h3 => ?_) h2
    have hS' : T w' := h3.2.1.elim (fun h => hT j oj w' hoj hji hnot (.inl h)) fun h => h.elim (fun h => h ▸ hS) fun h => hT j oj w' hoj hji hnot (.inr h)
    refine ⟨h3.2.1, ih (listed.setIfInBounds j true) a' w' hfree' (ready_mono hr (Ne.symm hji)) h3.1 hS' ?_⟩
    rw [Array.setIfInBounds_comm _ _ hji]
    exact h3.2.2
def exOK (md : Region.Mode) (ops : Array Oper) (ex : List Nat) (i : Nat) : Bool :=
 ex.all fun j => match ops[j]? with | none => true | some o => o.after.any fun e => Region.binds md e && e.on == i
def okM (md : Region.Mode) (ops : Array Oper) (ex : List Nat) : List (Nat × Nat) → Array Bool → Bool
 | [], listed => Region.ready md ops listed == []
 | (i, 0) :: r, listed => (Region.ready md ops listed == [i]) && okM md ops ex r (listed.setIfInBounds i true)
 | (i, k + 1) :: r, listed => Region.free md ops listed i && (Region.ready md ops listed).contains i && (k == 1 || exOK md ops ex i) && decide (i < ops.size) && okM md ops ex r (listed.setIfInBounds i true)
def wpM (P : Program) (md : Region.Mode) (ops : Array Oper) (Q : Exit → Act → World → Prop) (S : World → Prop) (ex : List Nat) (steps : List (Nat × Nat)) (a : Act) (w : World) : Prop :=
 ∀ listed, (okM md ops ex steps listed && Region.noSelect ops) = true → wpAnyM P md ops Q S ex steps.length listed a w
theorem wpM_begin {id : Nat} {a : Act} {w : World} (ex : List Nat) (S : World → Prop) (steps : List (Nat × Nat)) (hn : ops.size = steps.length) (hk : (okM .any ops ex steps (Array.replicate ops.size false) && Region.noSelect ops) = true) (hm : P.follows .mixedOrders = true) (hS : S w.drew)
    (h : ∀ os, Hid (os = ops) → S w.drew → wpM P .any os Q S ex steps a w.drew) : (Code.region id ops true).wp P Q a w := by
 have h2 := h ops rfl hS _ hk
 rw [← hn] at h2
 exact wp_region_any hm (wpAnyM_any _ _ _ _ h2)
variable {os : Array Oper} {steps : List (Nat × Nat)}
theorem wpM_take {i : Nat} (ho : Hid (os = ops)) {oi : Oper} {v : Value} {a : Act} {w : World} (hS : S w) {rest : List Oper} (hi' : ops.toList.drop i = oi :: rest)
    (hQ : ∀ c a w, Q (.panic c) (a.put oi.dst v) w → Q (.panic c) a w) (hy : YieldsIf P ops S oi v a)
    (h : wpM P md os Q S ex steps (a.put oi.dst v) w) : wpM P md os Q S ex ((i, 1) :: steps) a w := by
 have ho := ho.out
 subst ho
 have hi := op_at hi'
 intro listed hk
 simp only [okM, Bool.and_eq_true, decide_eq_true_eq] at hk
 obtain ⟨⟨⟨⟨⟨h2, h3⟩, h5⟩, h6⟩, h7⟩, h1⟩ := hk
 have h5 : exOK md os ex i = true := by simpa using h5
 refine wpAnyM_first hi (Region.noSelect_spec h1) hQ (fun j oj w' hj hne hno hs => hs.resolve_left fun he => ?_) steps.length listed a w (Region.free_spec hi h2) (by simpa using h3) hy hS (h _ (by simp only [Bool.and_eq_true]; exact ⟨h7, h1⟩))
 unfold exOK at h5
 have h8 := List.all_eq_true.1 h5 j he
 rw [hj] at h8
 obtain ⟨e, he1, he2⟩ := Array.any_eq_true'.1 h8
 simp only [Bool.and_eq_true, beq_iff_eq] at he2
 exact hno e he1 he2.1 he2.2
theorem wpM_free {i : Nat} (ho : Hid (os = ops)) {oi : Oper} {v : Value} {a : Act} {w : World} {rest : List Oper} (hi' : ops.toList.drop i = oi :: rest)
    (hQ : ∀ c a w, Q (.panic c) (a.put oi.dst v) w → Q (.panic c) a w) (hy : YieldsIf P ops (fun _ => True) oi v a)
    (h : wpM P md os Q S ex steps (a.put oi.dst v) w) : wpM P md os Q S ex ((i, 2) :: steps) a w := by
 have ho := ho.out
 subst ho
 have hi := op_at hi'
 intro listed hk
 simp only [okM, Bool.and_eq_true, decide_eq_true_eq] at hk
 obtain ⟨⟨⟨⟨⟨h2, h3⟩, _⟩, h6⟩, h7⟩, h1⟩ := hk
 exact wpAnyM_first hi (Region.noSelect_spec h1) hQ (fun _ _ _ _ _ _ _ => trivial) steps.length listed a w (Region.free_spec hi h2) (by simpa using h3) hy trivial (h _ (by simp only [Bool.and_eq_true]; exact ⟨h7, h1⟩))
theorem wpM_next {i : Nat} (ho : Hid (os = ops)) {oi : Oper} {a : Act} {w : World} {rest : List Oper} (hi' : ops.toList.drop i = oi :: rest)
    (hw : Region.wanted oi (yielded ops a.tmps) = true)
    (h : ∀ K : Act → World → Prop, (∀ a w, (i ∈ ex ∨ S w) → wpM P md os Q S ex steps a w → K a w) → OWp P oi a w K Q) : wpM P md os Q S ex ((i, 0) :: steps) a w := by
 have ho := ho.out
 subst ho
 have hi := op_at hi'
 intro listed hk
 simp only [okM, Bool.and_eq_true, beq_iff_eq] at hk
 obtain ⟨⟨hr, h7⟩, h1⟩ := hk
 refine ⟨fun h0 => by rw [hr] at h0; simp at h0, fun j hj => ?_⟩
 rw [hr] at hj
 obtain rfl : j = i := by simpa using hj
 unfold wpOp
 simp only [hi, hw, if_true]
 exact .inl (OWp.out <| h _ fun a w hS h => ⟨hS.imp_right .inr, h _ (by simp only [Bool.and_eq_true]; exact ⟨h7, h1⟩)⟩)
theorem wpM_end {a : Act} {w : World} (h : Q .normal a w) : wpM P md os Q S ex [] a w := by
 intro listed hk
 simp only [okM, Bool.and_eq_true, beq_iff_eq] at hk
 exact ⟨hk.1, h⟩
end
end Go.Hg
namespace Go.Hg
open Go.RowKit
theorem At.rows_blk {w0 w : World} {L : List SP} {e : TypeId} {size n g off cap : Nat} {xs : List Value} (H : At w0 (rows e size (.slice (some ⟨g, off, none⟩) n cap) n xs :: L) w) :
    ∃ cur, w.heap[g]? = some (.cells cur e (0, 0)) ∧ n ≤ cap ∧ cap ≤ maxLen ∧ off + cap * size ≤ cur.size ∧ (cur.toList.drop off).take (n * size) = xs := by
 obtain ⟨hb, h, ⟨h1, h2, p, q, d, l1, l2⟩, s, u⟩ := H
 unfold rows at p
 rcases p.2 with ⟨hv, _⟩ | ⟨g', off', cap', cur, hv, hg, h1, h2, h3, h4⟩
 · cases hv
 · cases hv
   exact ⟨cur, s g _ (l1 g _ hg), h1, h2, h3, h4⟩
theorem splice_mid (A B : List Value) (off p m : Nat) (h1 : p + B.length ≤ m) (h2 : off + m ≤ A.length) :
    ((A.take (off + p) ++ B ++ A.drop (off + p + B.length)).drop off).take m = ((A.drop off).take m).take p ++ B ++ ((A.drop off).take m).drop (p + B.length) := by
 apply List.ext_getElem?
 intro j
 simp only [List.getElem?_append, List.getElem?_take, List.getElem?_drop, List.length_append, List.length_take, List.length_drop]
 repeat' split
 all_goals first | rfl | omega | (congr 1; omega) | (exfalso; omega) | skip
 all_goals first | (symm; apply List.getElem?_eq_none; omega) | (apply List.getElem?_eq_none; omega) | skip
section
variable {α : Type} {P : Program} {e : TypeId} {size by_ : Nat} {c : α → List Value} {w w0 : World} {L : List SP}
theorem El.cl_take (E : El P e size by_ c) (xs : List α) (q : Nat) : (cl c xs).take (q * size) = cl c (xs.take q) := by
 have h := E.cl_length (xs.take q)
 have e1 : cl c xs = cl c (xs.take q) ++ cl c (xs.drop q) := by rw [← cl_append, List.take_append_drop]
 rcases Nat.le_total q xs.length with hq | hq
 · rw [List.length_take, Nat.min_eq_left hq] at h
   rw [e1, ← h, List.take_left]
 · rw [List.take_of_length_le hq, List.take_of_length_le (by rw [E.cl_length]; exact Nat.mul_le_mul_right _ hq)]
theorem El.cl_drop (E : El P e size by_ c) (xs : List α) (q : Nat) : (cl c xs).drop (q * size) = cl c (xs.drop q) := by
 have h := E.cl_length (xs.take q)
 have e1 : cl c xs = cl c (xs.take q) ++ cl c (xs.drop q) := by rw [← cl_append, List.take_append_drop]
 rcases Nat.le_total q xs.length with hq | hq
 · rw [List.length_take, Nat.min_eq_left hq] at h
   rw [e1, ← h, List.drop_left]
 · rw [List.drop_of_length_le hq, List.drop_of_length_le (by rw [E.cl_length]; exact Nat.mul_le_mul_right _ hq)]; rfl
theorem El.cl_set (E : El P e size by_ c) {ys : List α} {i : Nat} (hi : i < ys.length) (z : α) : cl c (ys.set i z) = (cl c ys).take (i * size) ++ c z ++ (cl c ys).drop (i * size + (c z).length) := by
 rw [List.set_eq_take_append_cons_drop, if_pos hi, E.len z, ← Nat.succ_mul, E.cl_take, E.cl_drop, cl_append]
 show cl c (ys.take i) ++ (c z ++ cl c (ys.drop (i + 1))) = _
 rw [← List.append_assoc]
variable {o : Oper} {a : Act} {K : Act → World → Prop} {Q : Exit → Act → World → Prop}
theorem wp_lstore (E : El P e size by_ c) (x y : Operand) (ho : o.op = .store e x y) {g off cap i : Nat} {ys : List α} {z : α}
    (hx : a.eval x = .pointer (some ⟨g, off + i * size, none⟩)) {v : Value} (hy : a.eval y = v) (hv : v.cells = (c z).toArray) (H : At w0 (lrow e size c (.slice (some ⟨g, off, none⟩) ys.length cap) ys :: L) w) (hlt : i < ys.length)
    (h : ∀ w', At w0 (lrow e size c (.slice (some ⟨g, off, none⟩) (ys.set i z).length cap) (ys.set i z) :: L) w' → K (a.put o.dst undef) w') : OWp P o a w K Q := by
 unfold lrow at H h
 obtain ⟨cur, hb, hn, hm, hs, ht⟩ := At.rows_blk H
 have hl := E.len z
 have hls := E.cl_length ys
 have hcap : ys.length * size ≤ cap * size := Nat.mul_le_mul_right _ hn
 have hi1 : (i + 1) * size ≤ ys.length * size := Nat.mul_le_mul_right _ hlt
 rw [Nat.add_mul, Nat.one_mul] at hi1
 have hst := run_storeCells_at P g (off + i * size) e (c z) 0 cur w hb (by omega) (E.one z)
 simp only [Nat.add_zero] at hst
 have H2 := At.rows_upd H (n' := (ys.set i z).length) (cur' := (cur.toList.take (off + i * size) ++ c z ++ cur.toList.drop (off + i * size + (c z).length)).toArray) (xs' := cl c (ys.set i z)) hb (by simpa using hn) hm
  (by simp; omega) (E.cl_length _) (by
   simp only [List.length_set]
   rw [splice_mid cur.toList (c z) off (i * size) (ys.length * size) (by omega) (by simp; omega), ht, E.cl_set hlt])
 have h3 := h _ H2
 obtain ⟨z', hi, _⟩ := E.info
 obtain ⟨i', hi, _, hsz, _⟩ := info_of hi
 have hcs : v.cells.size = size := by rw [hv]; simpa using hl
 have hcl : v.cells.toList = c z := by rw [hv]
 refine owp ?_
 unfold Oper.wp execOp
 simp only [ho, Instr.storeAt, hx, hy, Instr.sureAddr, storeVar, sizeOf, typeInfo, Sem.run_bind, Sem.run_pure, Result.andThen_ok]
 simp only [Sem.run, program, hi, Sem.run_pure, Result.andThen_ok, hsz, hcs, ne_eq, not_true_eq_false, if_false, hcl]
 simp [hst, Oper.upon]
 simpa using h3
theorem lrow_set_run (E : El P e size by_ c) {g off cap i : Nat} {ys : List α} (z : α) (H : At w0 (lrow e size c (.slice (some ⟨g, off, none⟩) ys.length cap) ys :: L) w) (hlt : i < ys.length) :
    ∃ w', (storeCells ⟨g, off + i * size, none⟩ (c z)).run P w = .ok () w' ∧ At w0 (lrow e size c (.slice (some ⟨g, off, none⟩) (ys.set i z).length cap) (ys.set i z) :: L) w' := by
 unfold lrow at H ⊢
 obtain ⟨cur, hb, hn, hm, hs, ht⟩ := At.rows_blk H
 have hl := E.len z
 have hcap : ys.length * size ≤ cap * size := Nat.mul_le_mul_right _ hn
 have hi1 : (i + 1) * size ≤ ys.length * size := Nat.mul_le_mul_right _ hlt
 rw [Nat.add_mul, Nat.one_mul] at hi1
 have hst := run_storeCells_at P g (off + i * size) e (c z) 0 cur w hb (by omega) (E.one z)
 simp only [Nat.add_zero] at hst
 exact ⟨_, hst, At.rows_upd H (n' := (ys.set i z).length) (cur' := (cur.toList.take (off + i * size) ++ c z ++ cur.toList.drop (off + i * size + (c z).length)).toArray) (xs' := cl c (ys.set i z)) hb (by simpa using hn) hm
  (by simp; omega) (E.cl_length _) (by
   simp only [List.length_set]
   rw [splice_mid cur.toList (c z) off (i * size) (ys.length * size) (by omega) (by simp; omega), ht, E.cl_set hlt])⟩
theorem wp_lclear_one (E : El P e size by_ c) (t : TypeId) (ht : P.underlying t = some (.slice e)) (x : Operand) (ho : o.op = .call { callee := .builtin .clear, args := #[x], argTypes := #[t] }) {g off cap i q : Nat} {ys : List α} (z : α)
    (hx : a.eval x = .slice (some ⟨g, off + i * size, none⟩) 1 q) {zv : Value} (hz : ∀ w, (zeroValue e).run P w = .ok zv w) (hzc : (Builtin.zeroCells zv.cells 1).toList = c z) (H : At w0 (lrow e size c (.slice (some ⟨g, off, none⟩) ys.length cap) ys :: L) w) (hlt : i < ys.length)
    (h : ∀ w', At w0 (lrow e size c (.slice (some ⟨g, off, none⟩) (ys.set i z).length cap) (ys.set i z) :: L) w' → K (a.put o.dst (.tuple #[])) w') : OWp P o a w K Q := by
 obtain ⟨w', hr, H2⟩ := lrow_set_run E z H hlt
 have h3 := h _ H2
 refine owp ?_
 unfold Oper.wp execOp
 simp only [ho, resolve, invoke, builtin, Sem.run_bind, Sem.run_pure, Result.andThen_ok, List.map_toArray, List.map_cons, List.map_nil, hx]
 simp [Builtin.clear_, run_underlying ht, hz, hzc, hr, Oper.upon]
 exact h3
theorem yl_mid {P : Program} {ops : Array Oper} {S : World → Prop} {o : Oper} {a : Act} (hw : Region.wanted o (yielded ops a.tmps) = true) (ty : TypeId) (x : Operand) (ho : o.op = .load ty x) {b off : Nat} (hx : a.eval x = .pointer (some ⟨b, off, none⟩)) (cells : List Value)
    (hk : rowType P ty = true) (hi : (P.info? ty).map (·.size) = some cells.length) (hS : ∀ w, S w → w.rangeAt b off cells) : YieldsIf P ops S o (.agg cells.toArray) a := by
 obtain ⟨d, hu, hd⟩ := rowType_spec hk
 exact yieldsIf_load_mid hw ty x ho b off hx cells d hS hu hd hi
theorem At.lrow_take (E : El P e size by_ c) {ys : List α} {g off cap : Nat} (H : At w0 (lrow e size c (.slice (some ⟨g, off, none⟩) ys.length cap) ys :: L) w) {q : Nat} (hq : q ≤ ys.length) :
    At w0 (lrow e size c (.slice (some ⟨g, off, none⟩) (ys.take q).length cap) (ys.take q) :: L) w := by
 unfold lrow at H ⊢
 obtain ⟨cur, hb, hn, _⟩ := At.rows_blk H
 have h := At.rows_take H (q := q) (c := cap) hq (by omega) (Nat.le_refl _)
 rw [E.cl_take] at h
 rw [List.length_take, Nat.min_eq_left hq]
 exact h
end
end Go.Hg
namespace Go.Hg
open Go.RowKit
/-- Where the i-th operation loads from. -/
def ld (ops : Array Oper) (i : Nat) (a : Act) : Addr := match ops.toList.drop i with
  | o :: _ => match o.op with
    | .load _ x => match a.eval x with
      | .pointer (some p) => p
      | _ => ⟨0, 0, none⟩
    | _ => ⟨0, 0, none⟩
  | _ => ⟨0, 0, none⟩
section
variable {P : Program} {ops os : Array Oper} {Q : Exit → Act → World → Prop} {md : Region.Mode} {S : World → Prop} {ex : List Nat} {L i : Nat} {oi : Oper} {v : Value} {a a' : Act} {w : World} {rest : List Oper}
theorem fm {steps : List (Nat × Nat)} (ho : Hid (os = ops)) (h : wpM P md os Q S ex steps a' w) (hi' : ops.toList.drop i = oi :: rest := by rfl) (hQ : ∀ c a w, Q (.panic c) (a.put oi.dst v) w → Q (.panic c) a w := by exact fun _ _ _ h => h)
    (hy : YieldsIf P ops (fun _ => True) oi v a := by first | exact yl_move rfl _ rfl | exact yl_nil rfl _ rfl _ rfl | exact yl rfl (by intro w hw; go_simp; first | done | rfl)) (ha : a.put oi.dst v = a' := by simp only [nrm]; first | done | rfl) : wpM P md os Q S ex ((i, 2) :: steps) a w :=
  wpM_free ho hi' hQ hy (by rw [ha]; exact h)
theorem fl {steps : List (Nat × Bool)} (ho : Hid (os = ops)) (hS : S w) (h : wpSeq P md os Q S L steps a' w) (hi' : ops.toList.drop i = oi :: rest := by rfl) (hQ : ∀ c a w, Q (.panic c) (a.put oi.dst v) w → Q (.panic c) a w := by exact fun _ _ _ h => h)
    (hy : YieldsIf P ops S oi v a := by first | exact yl_move rfl _ rfl | exact yl_nil rfl _ rfl _ rfl | exact yl rfl (by intro w hw; go_simp; first | done | rfl)) (ha : a.put oi.dst v = a' := by simp only [nrm]; first | done | rfl) : wpSeq P md os Q S L ((i, true) :: steps) a w :=
  wpL_take ho hS hi' hQ hy (by rw [ha]; exact h)
theorem tm {steps : List (Nat × Nat)} (ho : Hid (os = ops)) (hS : S w) (hc : ∀ w, S w → w.cell? (ld ops i a) = some v) (h : wpM P md os Q S ex steps a' w) (hi' : ops.toList.drop i = oi :: rest := by rfl) (hw : Region.wanted oi (yielded ops a.tmps) = true := by rfl) {ty : TypeId} {x : Operand} (hl : oi.op = .load ty x := by rfl) (hx : a.eval x = .pointer (some (ld ops i a)) := by rfl)
    (hk : oneType P ty = true := by kernel_rfl) (hQ : ∀ c a w, Q (.panic c) (a.put oi.dst v) w → Q (.panic c) a w := by exact fun _ _ _ h => h) (ha : a.put oi.dst v = a' := by simp only [nrm]; first | done | rfl) : wpM P md os Q S ex ((i, 1) :: steps) a w :=
  wpM_take ho hS hi' hQ (yl_get hw ty x hl hx hk hc) (by rw [ha]; exact h)
theorem tl {steps : List (Nat × Bool)} (ho : Hid (os = ops)) (hS : S w) (hc : ∀ w, S w → w.cell? (ld ops i a) = some v) (h : wpSeq P md os Q S L steps a' w) (hi' : ops.toList.drop i = oi :: rest := by rfl) (hw : Region.wanted oi (yielded ops a.tmps) = true := by rfl) {ty : TypeId} {x : Operand} (hl : oi.op = .load ty x := by rfl) (hx : a.eval x = .pointer (some (ld ops i a)) := by rfl)
    (hk : oneType P ty = true := by kernel_rfl) (hQ : ∀ c a w, Q (.panic c) (a.put oi.dst v) w → Q (.panic c) a w := by exact fun _ _ _ h => h) (ha : a.put oi.dst v = a' := by simp only [nrm]; first | done | rfl) : wpSeq P md os Q S L ((i, true) :: steps) a w :=
  wpL_take ho hS hi' hQ (yl_get hw ty x hl hx hk hc) (by rw [ha]; exact h)
end
end Go.Hg
