/-
  A region that draws its order, walked once: what only reads is taken as soon as it may be, under a condition on the world that every other operation but the last one keeps. No program in sight.
-/
import Derived.OrdersHeld
import Derived.WalkKit
import Derived.Deep.QuietTactic
import Derived.BigQuiet
import Derived.Deep.MidRow
namespace Go.Hg
open Go.RowKit
section
variable {P : Program} {ops : Array Oper} {Q : Exit → Act → World → Prop} {md : Region.Mode} {S : World → Prop} {L : Nat}

/-- What an operation comes to, by a name that no tactic sees through. -/
def OWp (P : Program) (o : Oper) (a : Act) (w : World) (K : Act → World → Prop) (Q : Exit → Act → World → Prop) : Prop := o.wp P a w K Q
theorem owp {P : Program} {o : Oper} {a : Act} {w : World} {K : Act → World → Prop} {Q : Exit → Act → World → Prop} (h : o.wp P a w K Q) : OWp P o a w K Q := h
theorem OWp.out {P : Program} {o : Oper} {a : Act} {w : World} {K : Act → World → Prop} {Q : Exit → Act → World → Prop} (h : OWp P o a w K Q) : o.wp P a w K Q := h
attribute [irreducible] OWp
theorem wpList_op {P : Program} {ops : Array Oper} {Q : Exit → Act → World → Prop} {o : Oper} {rest : List Oper} {a : Act} {w : World} (hg : o.guard = none)
    (h : ∀ K : Act → World → Prop, (∀ a w, wpList P ops Q rest a w → K a w) → OWp P o a w K Q) : wpList P ops Q (o :: rest) a w :=
  wpList_plain hg fun K hK => (h K hK).out

theorem wpList_opif {P : Program} {ops : Array Oper} {Q : Exit → Act → World → Prop} {o : Oper} {rest : List Oper} {a : Act} {w : World} (hg : Region.wanted o (yielded ops a.tmps) = true)
    (h : ∀ K : Act → World → Prop, (∀ a w, wpList P ops Q rest a w → K a w) → OWp P o a w K Q) : wpList P ops Q (o :: rest) a w :=
  wpList_step fun K hK => by rw [if_pos hg]; exact (h K hK).out

/-- All others come ahead of number L. -/
def lastOK (md : Region.Mode) (ops : Array Oper) (L : Nat) : Bool :=
  match ops[L]? with
  | none => true
  | some o => (List.range ops.size).all fun i => i == L || o.after.any fun e => Region.binds md e && e.on == i

/-- In whatever order; behind each operation but number L the condition S holds. -/
def wpAnyL (P : Program) (md : Region.Mode) (ops : Array Oper) (Q : Exit → Act → World → Prop) (S : World → Prop) (L : Nat) : Nat → Array Bool → Act → World → Prop
  | 0, listed, a, w => Region.ready md ops listed = [] ∧ Q .normal a w
  | fuel + 1, listed, a, w => (Region.ready md ops listed = [] → Q .normal a w) ∧
      ∀ i ∈ Region.ready md ops listed, wpOp P ops Q i (fun a' w' => (i = L ∨ S w') ∧ wpAnyL P md ops Q S L fuel (listed.setIfInBounds i true) a' w') a w

theorem wpAnyL_any : ∀ (fuel : Nat) (listed : Array Bool) (a : Act) (w : World), wpAnyL P md ops Q S L fuel listed a w → wpAny P md ops Q fuel listed a w
  | 0, _, _, _, h => h
  | fuel + 1, _, _, _, h => ⟨h.1, fun i hi => wpOp_mono (fun _ _ h3 => wpAnyL_any fuel _ _ _ h3.2) (h.2 i hi)⟩

theorem wpAnyL_first {i : Nat} {oi : Oper} {v : Value} (hi : ops[i]? = some oi) (hsel : ∀ (j : Nat) (o : Oper) cs b, ops[j]? = some o → o.op ≠ .select cs b)
    (hQ : ∀ c a w, Q (.panic c) (a.put oi.dst v) w → Q (.panic c) a w) (hL : lastOK md ops L = true) (hiL : i ≠ L) (hil : i < ops.size) :
    ∀ (fuel : Nat) (listed : Array Bool) (a : Act) (w : World),
      (∀ j oj, ops[j]? = some oj → j ≠ i → listed.getD j true = false → (∀ e ∈ oj.after, Region.binds md e = true → e.on ≠ i) → oi.apart ops oj = true) →
      i ∈ Region.ready md ops listed → YieldsIf P ops S oi v a → S w →
      wpAnyL P md ops Q S L fuel (listed.setIfInBounds i true) (a.put oi.dst v) w → wpAnyL P md ops Q S L (fuel + 1) listed a w := by
  intro fuel
  induction fuel with
  | zero =>
    intro listed a w _ hr hy hS H
    refine ⟨fun h => (by rw [h] at hr; cases hr), fun j hj => ?_⟩
    by_cases hji : j = i
    · subst hji; exact hy.wpOp hi hS ⟨.inr hS, H⟩
    · have := ready_mono hj hji
      rw [H.1] at this
      cases this
  | succ fuel ih =>
    intro listed a w hfree hr hy hS H
    refine ⟨fun h => (by rw [h] at hr; cases hr), fun j hj => ?_⟩
    by_cases hji : j = i
    · subst hji; exact hy.wpOp hi hS ⟨.inr hS, H⟩
    · have h1 := H.2 j (ready_mono hj hji)
      obtain ⟨hjun, oj, hoj, hall⟩ := mem_ready.1 hj
      have hnot : ∀ e ∈ oj.after, Region.binds md e = true → e.on ≠ i := fun e he hb heq => by
        have h1 := hall e he hb
        have h0 := (mem_ready.1 hr).1
        rw [heq] at h1
        rcases Nat.lt_or_ge i listed.size with h' | h'
        · simp [h'] at h0 h1; rw [h0] at h1; cases h1
        · simp [Array.getElem?_eq_none h'] at h1
      have hjL : j ≠ L := by
        rintro rfl
        unfold lastOK at hL
        rw [hoj] at hL
        have h5 := List.all_eq_true.1 hL i (List.mem_range.2 hil)
        simp only [Bool.or_eq_true, beq_iff_eq, hiL, false_or] at h5
        obtain ⟨e, he, h6⟩ := Array.any_eq_true'.1 h5
        simp only [Bool.and_eq_true, beq_iff_eq] at h6
        exact hnot e he h6.1 h6.2
      have h2 := wpOp_putIf hoj (hfree j oj hoj hji hjun hnot) (fun cs b => hsel i oi cs b hi) (fun cs b => hsel j oj cs b hoj) hQ hy h1
      have hfree' : ∀ k ok, ops[k]? = some ok → k ≠ i → (listed.setIfInBounds j true).getD k true = false →
          (∀ e ∈ ok.after, Region.binds md e = true → e.on ≠ i) → oi.apart ops ok = true := fun k ok hk hki hun hno => by
        refine hfree k ok hk hki ?_ hno
        by_cases hjk : j = k
        · subst hjk; exact hjun
        · rw [getD_set_ne true hjk] at hun; exact hun
      refine wpOp_mono (fun a' w' h3 => ?_) h2
      have hS' : S w' := h3.2.1.resolve_left hjL
      refine ⟨.inr hS', ih (listed.setIfInBounds j true) a' w' hfree' (ready_mono hr (Ne.symm hji)) h3.1 hS' ?_⟩
      rw [Array.setIfInBounds_comm _ _ hji]
      exact h3.2.2

theorem op_at {i : Nat} {oi : Oper} {rest : List Oper} (h : ops.toList.drop i = oi :: rest) : ops[i]? = some oi := by
  have e : (ops.toList.drop i)[0]? = some oi := by rw [h]; rfl
  rw [List.getElem?_drop] at e
  simpa using e
/-- An order in which a region may be walked: (i, true): number i is taken, it only reads; (i, false): nothing but number i may come up. -/
def okSteps (md : Region.Mode) (ops : Array Oper) (L : Nat) : List (Nat × Bool) → Array Bool → Bool
  | [], listed => Region.ready md ops listed == []
  | (i, true) :: r, listed => Region.free md ops listed i && (Region.ready md ops listed).contains i && decide (i ≠ L) && decide (i < ops.size) && okSteps md ops L r (listed.setIfInBounds i true)
  | (i, false) :: r, listed => (Region.ready md ops listed == [i]) && okSteps md ops L r (listed.setIfInBounds i true)
/-- The walk in that order. -/
def wpSeq (P : Program) (md : Region.Mode) (ops : Array Oper) (Q : Exit → Act → World → Prop) (S : World → Prop) (L : Nat) (steps : List (Nat × Bool)) (a : Act) (w : World) : Prop :=
  ∀ listed, (okSteps md ops L steps listed && (Region.noSelect ops && lastOK md ops L)) = true → wpAnyL P md ops Q S L steps.length listed a w

/-- The beginning. (The operations go by a name, so that no tactic walks through them.) -/
theorem wpL_begin {id : Nat} {a : Act} {w : World} (L : Nat) (S : World → Prop) (steps : List (Nat × Bool)) (hn : ops.size = steps.length) (hk : (okSteps .any ops L steps (Array.replicate ops.size false) && (Region.noSelect ops && lastOK .any ops L)) = true) (hm : P.follows .mixedOrders = true) (hS : S w.drew)
    (h : ∀ os, Hid (os = ops) → S w.drew → wpSeq P .any os Q S L steps a w.drew) : (Code.region id ops true).wp P Q a w := by
  have h2 := h ops rfl hS _ hk
  rw [← hn] at h2
  exact wp_region_any hm (wpAnyL_any _ _ _ _ h2)
variable {os : Array Oper} {steps : List (Nat × Bool)}
/-- Number i is taken: it only reads. -/
theorem wpL_take {i : Nat} (ho : Hid (os = ops)) {oi : Oper} {v : Value} {a : Act} {w : World} (hS : S w) {rest : List Oper} (hi' : ops.toList.drop i = oi :: rest)
    (hQ : ∀ c a w, Q (.panic c) (a.put oi.dst v) w → Q (.panic c) a w) (hy : YieldsIf P ops S oi v a)
    (h : wpSeq P md os Q S L steps (a.put oi.dst v) w) : wpSeq P md os Q S L ((i, true) :: steps) a w := by
  have ho := ho.out
  subst ho
  have hi := op_at hi'
  intro listed hk
  simp only [okSteps, Bool.and_eq_true, decide_eq_true_eq] at hk
  obtain ⟨⟨⟨⟨⟨h2, h3⟩, h5⟩, h6⟩, h7⟩, h1, h4⟩ := hk
  exact wpAnyL_first hi (Region.noSelect_spec h1) hQ h4 h5 h6 steps.length listed a w (Region.free_spec hi h2) (by simpa using h3) hy hS (h _ (by simp only [Bool.and_eq_true]; exact ⟨h7, h1, h4⟩))
/-- Only number i may come up, and it is not the last one: behind it S is to be shown anew. -/
theorem wpL_next {i : Nat} (ho : Hid (os = ops)) {oi : Oper} {a : Act} {w : World} {rest : List Oper} (hi' : ops.toList.drop i = oi :: rest)
    (hw : Region.wanted oi (yielded ops a.tmps) = true)
    (h : ∀ K : Act → World → Prop, (∀ a w, S w → wpSeq P md os Q S L steps a w → K a w) → OWp P oi a w K Q) : wpSeq P md os Q S L ((i, false) :: steps) a w := by
  have ho := ho.out
  subst ho
  have hi := op_at hi'
  intro listed hk
  simp only [okSteps, Bool.and_eq_true, beq_iff_eq] at hk
  obtain ⟨⟨hr, h7⟩, h1, h4⟩ := hk
  refine ⟨fun h0 => by rw [hr] at h0; simp at h0, fun j hj => ?_⟩
  rw [hr] at hj
  obtain rfl : j = i := by simpa using hj
  unfold wpOp
  simp only [hi, hw, if_true]
  exact .inl (OWp.out <| h _ fun a w hS h => ⟨.inr hS, h _ (by simp only [Bool.and_eq_true]; exact ⟨h7, h1, h4⟩)⟩)
/-- Only number i may come up, and it is not wanted. -/
theorem wpL_skip {i : Nat} (ho : Hid (os = ops)) {oi : Oper} {a : Act} {w : World} (hS : S w) {rest : List Oper} (hi' : ops.toList.drop i = oi :: rest)
    (hw : Region.wanted oi (yielded ops a.tmps) = false)
    (h : wpSeq P md os Q S L steps (a.put oi.dst undef) w) : wpSeq P md os Q S L ((i, false) :: steps) a w := by
  have ho := ho.out
  subst ho
  have hi := op_at hi'
  intro listed hk
  simp only [okSteps, Bool.and_eq_true, beq_iff_eq] at hk
  obtain ⟨⟨hr, h7⟩, h1, h4⟩ := hk
  refine ⟨fun h0 => by rw [hr] at h0; simp at h0, fun j hj => ?_⟩
  rw [hr] at hj
  obtain rfl : j = i := by simpa using hj
  unfold wpOp
  simp only [hi, hw, Bool.false_eq_true, if_false]
  exact ⟨.inr hS, h _ (by simp only [Bool.and_eq_true]; exact ⟨h7, h1, h4⟩)⟩
/-- The last one. -/
theorem wpL_last (ho : Hid (os = ops)) {oi : Oper} {a : Act} {w : World} {rest : List Oper} (hi' : ops.toList.drop L = oi :: rest)
    (hw : Region.wanted oi (yielded ops a.tmps) = true)
    (h : ∀ K : Act → World → Prop, (∀ a w, Q .normal a w → K a w) → OWp P oi a w K Q) : wpSeq P md os Q S L [(L, false)] a w := by
  have ho := ho.out
  subst ho
  have hi := op_at hi'
  intro listed hk
  simp only [okSteps, Bool.and_eq_true, beq_iff_eq] at hk
  obtain ⟨⟨hr, hr2⟩, _⟩ := hk
  refine ⟨fun h0 => by rw [hr] at h0; simp at h0, fun j hj => ?_⟩
  rw [hr] at hj
  obtain rfl : j = L := by simpa using hj
  unfold wpOp
  simp only [hi, hw, if_true]
  exact .inl (OWp.out <| h _ fun a w hq => ⟨.inl (by trivial), hr2, hq⟩)
/-- All have come up. -/
theorem wpL_end {a : Act} {w : World} (h : Q .normal a w) : wpSeq P md os Q S L [] a w := by
  intro listed hk
  simp only [okSteps, Bool.and_eq_true, beq_iff_eq] at hk
  exact ⟨hk.1, h⟩

/-- What an operation yields in every world that meets S. -/
theorem yl {o : Oper} {v : Value} {a : Act} (hw : Region.wanted o (yielded ops a.tmps) = true) (h : ∀ w, S w → (execOp a.eval o).run P w = .ok (.value v) w) : YieldsIf P ops S o v a := .inl ⟨hw, h⟩
/-- What is not wanted. -/
theorem yn {o : Oper} {a : Act} (hw : Region.wanted o (yielded ops a.tmps) = false) : YieldsIf P ops S o undef a := .inr ⟨hw, rfl⟩
theorem yl_move {o : Oper} {a : Act} (hw : Region.wanted o (yielded ops a.tmps) = true) (x : Operand) (ho : o.op = .move x) : YieldsIf P ops S o (a.eval x) a :=
  yl hw fun w _ => by unfold execOp; simp [ho]
theorem yl_nil {o : Oper} {a : Act} (hw : Region.wanted o (yielded ops a.tmps) = true) (x : Operand) (ho : o.op = .nilCheck x) (p : Addr) (hx : a.eval x = .pointer (some p)) : YieldsIf P ops S o (.pointer (some p)) a :=
  yl hw fun w _ => by unfold execOp; simp [ho, hx]
/-- A variable of one cell is read. -/
theorem yl_load {o : Oper} {a : Act} (hw : Region.wanted o (yielded ops a.tmps) = true) (ty : TypeId) (x : Operand) (ho : o.op = .load ty x) (p : Addr) (hx : a.eval x = .pointer (some p)) (d : TypeDesc) (hu : P.underlying ty = some d)
    (hd : (match d with | .struct _ => true | .array _ _ => true | _ => false) = false) (v : Value) (hS : ∀ w, S w → w.cell? p = some v) : YieldsIf P ops S o v a :=
  yl hw fun w h => by
    have hl : (load p).run P w = .ok v w := by simp [load, Sem.run, hS w h]
    unfold execOp
    cases d <;> simp_all [Instr.loadAt, Instr.sureAddr, loadVar, isAgg, run_underlying hu]
/-- A whole block is read. -/
theorem yl_load_row {o : Oper} {a : Act} (hw : Region.wanted o (yielded ops a.tmps) = true) (ty : TypeId) (x : Operand) (ho : o.op = .load ty x) (g : Nat) (hx : a.eval x = .pointer (some ⟨g, 0, none⟩)) (t : TypeId) (cs : Array Value) (fr : Nat × Nat) (d : TypeDesc)
    (hu : P.underlying ty = some d) (hd : d.isRow = true) (hi : (P.info? ty).map (·.size) = some cs.size) (hS : ∀ w, S w → w.heap[g]? = some (.cells cs t fr)) : YieldsIf P ops S o (.agg cs) a :=
  yl hw fun w h => by
    have hl := run_loadVar_row (P := P) w g t ty cs fr d (hS w h) hu (by cases d <;> first | rfl | cases hd) hi
    unfold execOp
    simp [ho, hx, Instr.loadAt, Instr.sureAddr, hl]
/-- A cell within a block is read, as one of a known address. -/
theorem yl_field {o : Oper} {a : Act} (hw : Region.wanted o (yielded ops a.tmps) = true) {v : Value} (h : ∀ w, (execOp a.eval o).run P w = .ok (.value v) w) : YieldsIf P ops S o v a := yl hw fun w _ => h w
end
end Go.Hg
