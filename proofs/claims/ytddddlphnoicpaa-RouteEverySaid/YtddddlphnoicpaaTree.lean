/-
  A region that draws its order, walked in a tree: where two operations may come up, each is tried first. No program in sight.
-/
import Derived.Test.YtddddlphnoicpaaDraw
namespace Go.Hg
open Go.RowKit
/-- The order of a walk: (one i 0): nothing but number i may come up; (one i 1): number i is taken, it reads what S tells; (one i 2): it is taken, whatever the world; (two i j): either may come up. -/
inductive Tr where
  | nil : Tr
  | one : Nat → Nat → Tr → Tr
  | two : Nat → Nat → Tr → Tr → Tr
def Tr.size : Tr → Nat
  | .nil => 0
  | .one _ _ r => r.size + 1
  | .two _ _ r _ => r.size + 1
/-- A straight piece ahead of a tree. -/
abbrev Tr.of : List (Nat × Nat) → Tr → Tr
  | [], t => t
  | (i, k) :: l, t => .one i k (Tr.of l t)
section
variable {P : Program} {ops : Array Oper} {Q : Exit → Act → World → Prop} {md : Region.Mode} {S : World → Prop} {ex : List Nat}
def okT (md : Region.Mode) (ops : Array Oper) (ex : List Nat) : Tr → Array Bool → Bool
  | .nil, listed => Region.ready md ops listed == []
  | .one i 0 r, listed => (Region.ready md ops listed == [i]) && okT md ops ex r (listed.setIfInBounds i true)
  | .one i (k + 1) r, listed => Region.free md ops listed i && (Region.ready md ops listed).contains i && (k == 1 || exOK md ops ex i) && decide (i < ops.size) && okT md ops ex r (listed.setIfInBounds i true)
  | .two i j r s, listed => (Region.ready md ops listed == [i, j]) && (r.size == s.size) && okT md ops ex r (listed.setIfInBounds i true) && okT md ops ex s (listed.setIfInBounds j true)
def wpT (P : Program) (md : Region.Mode) (ops : Array Oper) (Q : Exit → Act → World → Prop) (S : World → Prop) (ex : List Nat) (t : Tr) (a : Act) (w : World) : Prop :=
  ∀ listed, (okT md ops ex t listed && Region.noSelect ops) = true → wpAnyM P md ops Q S ex t.size listed a w
theorem wpT_begin {id : Nat} {a : Act} {w : World} (ex : List Nat) (S : World → Prop) (t : Tr) (hn : ops.size = t.size) (hk : (okT .any ops ex t (Array.replicate ops.size false) && Region.noSelect ops) = true) (hm : P.follows .mixedOrders = true) (hS : S w.drew)
    (h : ∀ os, Hid (os = ops) → S w.drew → wpT P .any os Q S ex t a w.drew) : (Code.region id ops true).wp P Q a w := by
  have h2 := h ops rfl hS _ hk
  rw [← hn] at h2
  exact wp_region_any hm (wpAnyM_any _ _ _ _ h2)
variable {os : Array Oper} {t s : Tr}
/-- Number i is taken: it reads what S tells. -/
theorem wpT_take {i : Nat} (ho : Hid (os = ops)) {oi : Oper} {v : Value} {a : Act} {w : World} (hS : S w) {rest : List Oper} (hi' : ops.toList.drop i = oi :: rest)
    (hQ : ∀ c a w, Q (.panic c) (a.put oi.dst v) w → Q (.panic c) a w) (hy : YieldsIf P ops S oi v a)
    (h : wpT P md os Q S ex t (a.put oi.dst v) w) : wpT P md os Q S ex (.one i 1 t) a w := by
  have ho := ho.out
  subst ho
  have hi := op_at hi'
  intro listed hk
  simp only [okT, Bool.and_eq_true, decide_eq_true_eq] at hk
  obtain ⟨⟨⟨⟨⟨h2, h3⟩, h5⟩, h6⟩, h7⟩, h1⟩ := hk
  have h5 : exOK md os ex i = true := by simpa using h5
  refine wpAnyM_first hi (Region.noSelect_spec h1) hQ (fun j oj w' hj hne hno hs => hs.resolve_left fun he => ?_) t.size listed a w (Region.free_spec hi h2) (by simpa using h3) hy hS (h _ (by simp only [Bool.and_eq_true]; exact ⟨h7, h1⟩))
  unfold exOK at h5
  have h8 := List.all_eq_true.1 h5 j he
  rw [hj] at h8
  obtain ⟨e, he1, he2⟩ := Array.any_eq_true'.1 h8
  simp only [Bool.and_eq_true, beq_iff_eq] at he2
  exact hno e he1 he2.1 he2.2
/-- Number i is taken: it yields the same in every world. -/
theorem wpT_free {i : Nat} (ho : Hid (os = ops)) {oi : Oper} {v : Value} {a : Act} {w : World} {rest : List Oper} (hi' : ops.toList.drop i = oi :: rest)
    (hQ : ∀ c a w, Q (.panic c) (a.put oi.dst v) w → Q (.panic c) a w) (hy : YieldsIf P ops (fun _ => True) oi v a)
    (h : wpT P md os Q S ex t (a.put oi.dst v) w) : wpT P md os Q S ex (.one i 2 t) a w := by
  have ho := ho.out
  subst ho
  have hi := op_at hi'
  intro listed hk
  simp only [okT, Bool.and_eq_true, decide_eq_true_eq] at hk
  obtain ⟨⟨⟨⟨⟨h2, h3⟩, _⟩, h6⟩, h7⟩, h1⟩ := hk
  exact wpAnyM_first hi (Region.noSelect_spec h1) hQ (fun _ _ _ _ _ _ _ => trivial) t.size listed a w (Region.free_spec hi h2) (by simpa using h3) hy trivial (h _ (by simp only [Bool.and_eq_true]; exact ⟨h7, h1⟩))
/-- Only number i may come up; behind it S is to be shown anew, unless it is marked. -/
theorem wpT_next {i : Nat} (ho : Hid (os = ops)) {oi : Oper} {a : Act} {w : World} {rest : List Oper} (hi' : ops.toList.drop i = oi :: rest)
    (hw : Region.wanted oi (yielded ops a.tmps) = true)
    (h : ∀ K : Act → World → Prop, (∀ a w, (i ∈ ex ∨ S w) → wpT P md os Q S ex t a w → K a w) → OWp P oi a w K Q) : wpT P md os Q S ex (.one i 0 t) a w := by
  have ho := ho.out
  subst ho
  have hi := op_at hi'
  intro listed hk
  simp only [okT, Bool.and_eq_true, beq_iff_eq] at hk
  obtain ⟨⟨hr, h7⟩, h1⟩ := hk
  refine ⟨fun h0 => by rw [hr] at h0; simp at h0, fun j hj => ?_⟩
  rw [hr] at hj
  obtain rfl : j = i := by simpa using hj
  unfold wpOp
  simp only [hi, hw, if_true]
  exact .inl (OWp.out <| h _ fun a w hS h => ⟨hS.imp_right .inr, h _ (by simp only [Bool.and_eq_true]; exact ⟨h7, h1⟩)⟩)
/-- Either may come up. -/
theorem wpT_two {i j : Nat} (ho : Hid (os = ops)) {oi oj : Oper} {a : Act} {w : World} {rest rest' : List Oper} (hi' : ops.toList.drop i = oi :: rest) (hj' : ops.toList.drop j = oj :: rest')
    (hw : Region.wanted oi (yielded ops a.tmps) = true) (hw' : Region.wanted oj (yielded ops a.tmps) = true)
    (h : ∀ K : Act → World → Prop, (∀ a w, (i ∈ ex ∨ S w) → wpT P md os Q S ex t a w → K a w) → OWp P oi a w K Q)
    (h' : ∀ K : Act → World → Prop, (∀ a w, (j ∈ ex ∨ S w) → wpT P md os Q S ex s a w → K a w) → OWp P oj a w K Q) : wpT P md os Q S ex (.two i j t s) a w := by
  have ho := ho.out
  subst ho
  have hi := op_at hi'
  have hj := op_at hj'
  intro listed hk
  simp only [okT, Bool.and_eq_true, beq_iff_eq] at hk
  obtain ⟨⟨⟨⟨hr, hs⟩, h7⟩, h8⟩, h1⟩ := hk
  refine ⟨fun h0 => by rw [hr] at h0; simp at h0, fun k hk => ?_⟩
  rw [hr] at hk
  rcases (by simpa using hk : k = i ∨ k = j) with rfl | rfl
  · unfold wpOp
    simp only [hi, hw, if_true]
    exact .inl (OWp.out <| h _ fun a w hS h => ⟨hS.imp_right .inr, h _ (by simp only [Bool.and_eq_true]; exact ⟨h7, h1⟩)⟩)
  · unfold wpOp
    simp only [hj, hw', if_true]
    exact .inl (OWp.out <| h' _ fun a w hS h => ⟨hS.imp_right .inr, by
      have h9 := h _ (by simp only [Bool.and_eq_true]; exact ⟨h8, h1⟩)
      rw [← hs] at h9
      exact h9⟩)
/-- All have come up. -/
theorem wpT_end {a : Act} {w : World} (h : Q .normal a w) : wpT P md os Q S ex .nil a w := by
  intro listed hk
  simp only [okT, Bool.and_eq_true, beq_iff_eq] at hk
  exact ⟨hk.1, h⟩
end
end Go.Hg
