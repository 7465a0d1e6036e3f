/-
  A region that draws its order, walked once, where more than one operation writes: those that are marked need not keep the condition, if every read that needs it is bound to come ahead of them. No program in sight.
-/
import Derived.Test.YtgdphamdbpkjdaaDoorReg
namespace Go.Hg
open Go.RowKit
section
variable {P : Program} {ops : Array Oper} {Q : Exit → Act → World → Prop} {md : Region.Mode} {S : World → Prop} {ex : List Nat}
/-- In whatever order; behind each operation that is not marked the condition S holds. -/
def wpAnyM (P : Program) (md : Region.Mode) (ops : Array Oper) (Q : Exit → Act → World → Prop) (S : World → Prop) (ex : List Nat) : Nat → Array Bool → Act → World → Prop
  | 0, listed, a, w => Region.ready md ops listed = [] ∧ Q .normal a w
  | fuel + 1, listed, a, w => (Region.ready md ops listed = [] → Q .normal a w) ∧
      ∀ i ∈ Region.ready md ops listed, wpOp P ops Q i (fun a' w' => (i ∈ ex ∨ w' = w ∨ S w') ∧ wpAnyM P md ops Q S ex fuel (listed.setIfInBounds i true) a' w') a w
theorem wpAnyM_any : ∀ (fuel : Nat) (listed : Array Bool) (a : Act) (w : World), wpAnyM P md ops Q S ex fuel listed a w → wpAny P md ops Q fuel listed a w
  | 0, _, _, _, h => h
  | fuel + 1, _, _, _, h => ⟨h.1, fun i hi => wpOp_mono (fun _ _ h3 => wpAnyM_any fuel _ _ _ h3.2) (h.2 i hi)⟩
theorem wpAnyM_first {i : Nat} {oi : Oper} {v : Value} {T : World → Prop} (hi : ops[i]? = some oi) (hsel : ∀ (j : Nat) (o : Oper) cs b, ops[j]? = some o → o.op ≠ .select cs b)
    (hQ : ∀ c a w, Q (.panic c) (a.put oi.dst v) w → Q (.panic c) a w)
    (hT : ∀ j oj w', ops[j]? = some oj → j ≠ i → (∀ e ∈ oj.after, Region.binds md e = true → e.on ≠ i) → (j ∈ ex ∨ S w') → T w') :
    ∀ (fuel : Nat) (listed : Array Bool) (a : Act) (w : World),
      (∀ j oj, ops[j]? = some oj → j ≠ i → listed.getD j true = false → (∀ e ∈ oj.after, Region.binds md e = true → e.on ≠ i) → oi.apart ops oj = true) →
      i ∈ Region.ready md ops listed → YieldsIf P ops T oi v a → T w →
      wpAnyM P md ops Q S ex fuel (listed.setIfInBounds i true) (a.put oi.dst v) w → wpAnyM P md ops Q S ex (fuel + 1) listed a w := by
  intro fuel
  induction fuel with
  | zero =>
    intro listed a w _ hr hy hS H
    refine ⟨fun h => (by rw [h] at hr; cases hr), fun j hj => ?_⟩
    by_cases hji : j = i
    · subst hji; exact hy.wpOp hi hS ⟨.inr (.inl rfl), H⟩
    · have := ready_mono hj hji
      rw [H.1] at this
      cases this
  | succ fuel ih =>
    intro listed a w hfree hr hy hS H
    refine ⟨fun h => (by rw [h] at hr; cases hr), fun j hj => ?_⟩
    by_cases hji : j = i
    · subst hji; exact hy.wpOp hi hS ⟨.inr (.inl rfl), H⟩
    · have h1 := H.2 j (ready_mono hj hji)
      obtain ⟨hjun, oj, hoj, hall⟩ := mem_ready.1 hj
      have hnot : ∀ e ∈ oj.after, Region.binds md e = true → e.on ≠ i := fun e he hb heq => by
        have h1 := hall e he hb
        have h0 := (mem_ready.1 hr).1
        rw [heq] at h1
        rcases Nat.lt_or_ge i listed.size with h' | h'
        · simp [h'] at h0 h1; rw [h0] at h1; cases h1
        · simp [Array.getElem?_eq_none h'] at h1
      have h2 := wpOp_putIf hoj (hfree j oj hoj hji hjun hnot) (fun cs b => hsel i oi cs b hi) (fun cs b => hsel j oj cs b hoj) hQ hy h1
      have hfree' : ∀ k ok, ops[k]? = some ok → k ≠ i → (listed.setIfInBounds j true).getD k true = false →
          (∀ e ∈ ok.after, Region.binds md e = true → e.on ≠ i) → oi.apart ops ok = true := fun k ok hk hki hun hno => by
        refine hfree k ok hk hki ?_ hno
        by_cases hjk : j = k
        · subst hjk; exact hjun
        · rw [getD_set_ne true hjk] at hun; exact hun
      refine wpOp_mono (fun a' w' h3 => ?_) h2
      have hS' : T w' := h3.2.1.elim (fun h => hT j oj w' hoj hji hnot (.inl h)) fun h => h.elim (fun h => h ▸ hS) fun h => hT j oj w' hoj hji hnot (.inr h)
      refine ⟨h3.2.1, ih (listed.setIfInBounds j true) a' w' hfree' (ready_mono hr (Ne.symm hji)) h3.1 hS' ?_⟩
      rw [Array.setIfInBounds_comm _ _ hji]
      exact h3.2.2
/-- All that is marked comes behind number i. -/
def exOK (md : Region.Mode) (ops : Array Oper) (ex : List Nat) (i : Nat) : Bool :=
  ex.all fun j => match ops[j]? with | none => true | some o => o.after.any fun e => Region.binds md e && e.on == i
/-- An order in which a region may be walked: (i, 0): nothing but number i may come up; (i, 1): number i is taken, it reads what S tells; (i, 2): it is taken, whatever the world. -/
def okM (md : Region.Mode) (ops : Array Oper) (ex : List Nat) : List (Nat × Nat) → Array Bool → Bool
  | [], listed => Region.ready md ops listed == []
  | (i, 0) :: r, listed => (Region.ready md ops listed == [i]) && okM md ops ex r (listed.setIfInBounds i true)
  | (i, k + 1) :: r, listed => Region.free md ops listed i && (Region.ready md ops listed).contains i && (k == 1 || exOK md ops ex i) && decide (i < ops.size) && okM md ops ex r (listed.setIfInBounds i true)
def wpM (P : Program) (md : Region.Mode) (ops : Array Oper) (Q : Exit → Act → World → Prop) (S : World → Prop) (ex : List Nat) (steps : List (Nat × Nat)) (a : Act) (w : World) : Prop :=
  ∀ listed, (okM md ops ex steps listed && Region.noSelect ops) = true → wpAnyM P md ops Q S ex steps.length listed a w
theorem wpM_begin {id : Nat} {a : Act} {w : World} (ex : List Nat) (S : World → Prop) (steps : List (Nat × Nat)) (hn : ops.size = steps.length) (hk : (okM .any ops ex steps (Array.replicate ops.size false) && Region.noSelect ops) = true) (hm : P.follows .mixedOrders = true) (hS : S w.drew)
    (h : ∀ os, Hid (os = ops) → S w.drew → wpM P .any os Q S ex steps a w.drew) : (Code.region id ops true).wp P Q a w := by
  have h2 := h ops rfl hS _ hk
  rw [← hn] at h2
  exact wp_region_any hm (wpAnyM_any _ _ _ _ h2)
variable {os : Array Oper} {steps : List (Nat × Nat)}
/-- Number i is taken: it reads what S tells. -/
theorem wpM_take {i : Nat} (ho : Hid (os = ops)) {oi : Oper} {v : Value} {a : Act} {w : World} (hS : S w) {rest : List Oper} (hi' : ops.toList.drop i = oi :: rest)
    (hQ : ∀ c a w, Q (.panic c) (a.put oi.dst v) w → Q (.panic c) a w) (hy : YieldsIf P ops S oi v a)
    (h : wpM P md os Q S ex steps (a.put oi.dst v) w) : wpM P md os Q S ex ((i, 1) :: steps) a w := by
  have ho := ho.out
  subst ho
  have hi := op_at hi'
  intro listed hk
  simp only [okM, Bool.and_eq_true, decide_eq_true_eq] at hk
  obtain ⟨⟨⟨⟨⟨h2, h3⟩, h5⟩, h6⟩, h7⟩, h1⟩ := hk
  have h5 : exOK md os ex i = true := by simpa using h5
  refine wpAnyM_first hi (Region.noSelect_spec h1) hQ (fun j oj w' hj hne hno hs => hs.resolve_left fun he => ?_) steps.length listed a w (Region.free_spec hi h2) (by simpa using h3) hy hS (h _ (by simp only [Bool.and_eq_true]; exact ⟨h7, h1⟩))
  unfold exOK at h5
  have h8 := List.all_eq_true.1 h5 j he
  rw [hj] at h8
  obtain ⟨e, he1, he2⟩ := Array.any_eq_true'.1 h8
  simp only [Bool.and_eq_true, beq_iff_eq] at he2
  exact hno e he1 he2.1 he2.2
/-- Number i is taken: it yields the same in every world. -/
theorem wpM_free {i : Nat} (ho : Hid (os = ops)) {oi : Oper} {v : Value} {a : Act} {w : World} {rest : List Oper} (hi' : ops.toList.drop i = oi :: rest)
    (hQ : ∀ c a w, Q (.panic c) (a.put oi.dst v) w → Q (.panic c) a w) (hy : YieldsIf P ops (fun _ => True) oi v a)
    (h : wpM P md os Q S ex steps (a.put oi.dst v) w) : wpM P md os Q S ex ((i, 2) :: steps) a w := by
  have ho := ho.out
  subst ho
  have hi := op_at hi'
  intro listed hk
  simp only [okM, Bool.and_eq_true, decide_eq_true_eq] at hk
  obtain ⟨⟨⟨⟨⟨h2, h3⟩, _⟩, h6⟩, h7⟩, h1⟩ := hk
  exact wpAnyM_first hi (Region.noSelect_spec h1) hQ (fun _ _ _ _ _ _ _ => trivial) steps.length listed a w (Region.free_spec hi h2) (by simpa using h3) hy trivial (h _ (by simp only [Bool.and_eq_true]; exact ⟨h7, h1⟩))
/-- Only number i may come up; behind it S is to be shown anew, unless it is marked. -/
theorem wpM_next {i : Nat} (ho : Hid (os = ops)) {oi : Oper} {a : Act} {w : World} {rest : List Oper} (hi' : ops.toList.drop i = oi :: rest)
    (hw : Region.wanted oi (yielded ops a.tmps) = true)
    (h : ∀ K : Act → World → Prop, (∀ a w, (i ∈ ex ∨ S w) → wpM P md os Q S ex steps a w → K a w) → OWp P oi a w K Q) : wpM P md os Q S ex ((i, 0) :: steps) a w := by
  have ho := ho.out
  subst ho
  have hi := op_at hi'
  intro listed hk
  simp only [okM, Bool.and_eq_true, beq_iff_eq] at hk
  obtain ⟨⟨hr, h7⟩, h1⟩ := hk
  refine ⟨fun h0 => by rw [hr] at h0; simp at h0, fun j hj => ?_⟩
  rw [hr] at hj
  obtain rfl : j = i := by simpa using hj
  unfold wpOp
  simp only [hi, hw, if_true]
  exact .inl (OWp.out <| h _ fun a w hS h => ⟨hS.imp_right .inr, h _ (by simp only [Bool.and_eq_true]; exact ⟨h7, h1⟩)⟩)
/-- All have come up. -/
theorem wpM_end {a : Act} {w : World} (h : Q .normal a w) : wpM P md os Q S ex [] a w := by
  intro listed hk
  simp only [okM, Bool.and_eq_true, beq_iff_eq] at hk
  exact ⟨hk.1, h⟩
end
end Go.Hg
