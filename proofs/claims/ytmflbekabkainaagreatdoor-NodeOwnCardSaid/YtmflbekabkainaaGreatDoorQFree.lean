import Derived.Test.YtmflbekabkainaaGreatDoorQHgA
set_option linter.unusedVariables false
namespace Go.Hg
open Go.RowKit
def Imp (L M : List SP) : Prop := ∀ h, seps L h → seps M h
theorem Imp.refl (L : List SP) : Imp L L := fun _ h => h
theorem Imp.trans {L M N : List SP} (a : Imp L M) (b : Imp M N) : Imp L N := fun h x => b h (a h x)
theorem Imp.nil (L : List SP) : Imp L [] := fun _ _ => trivial
theorem Imp.more {L M : List SP} (h : Imp L M) (X : SP) : Imp (X :: L) M := fun g x => h g (sep_tail x)
section
variable {P : Program} {ops : Array Oper} {Q : Exit → Act → World → Prop} {md : Region.Mode} {w0 : World} {F F' : List SP} {ex : List Nat}
def outOK (P : Program) (G : Value → World → Prop) : Result Next → Prop
 | .ok (.value v) w' => G v w'
 | .ok (.enter f args) w' => Calls P f args w' fun
     | .returned v, w'' => G v w''
     | _, _ => False
 | _ => False
theorem outOK_upon {o : Oper} {a : Act} {K : Act → World → Prop} {G : Value → World → Prop} (h : ∀ v w, G v w → K (a.put o.dst v) w) : ∀ r, outOK P G r → o.upon P a K Q r := by
 intro r hr
 cases r with
 | halt x w => exact hr.elim
 | ok n w =>
  cases n with
  | value v => exact h v w hr
  | enter f args =>
   refine Calls.mono hr fun e w'' he => ?_
   cases e with
   | returned v => exact h v w'' he
   | panicked c => exact he.elim
   | outgrown => exact he.elim
  | _ => exact hr.elim
def GY (P : Program) (ops : Array Oper) (w0 : World) (F : List SP) (o : Oper) (v : Value) (a : Act) : Prop :=
 (Region.wanted o (yielded ops a.tmps) = true ∧ ∀ L w, Imp L F → At w0 L w → outOK P (fun v' w' => v' = v ∧ At w0 L w') ((execOp a.eval o).run P w)) ∨ (Region.wanted o (yielded ops a.tmps) = false ∧ v = undef)
theorem GY.of_same {o : Oper} {v : Value} {a a' : Act} (hy : GY P ops w0 F o v a) (he : execOp a'.eval o = execOp a.eval o) (hw : Region.wanted o (yielded ops a'.tmps) = Region.wanted o (yielded ops a.tmps)) : GY P ops w0 F o v a' := by
 unfold GY at *
 rw [he, hw]
 exact hy
theorem GY.wpOp {i : Nat} {o : Oper} {v : Value} {a : Act} (hi : ops[i]? = some o) (hy : GY P ops w0 F o v a) {K : Act → World → Prop} {L : List SP} {w : World} (hL : Imp L F) (H : At w0 L w) (h : ∀ w', At w0 L w' → K (a.put o.dst v) w') : wpOp P ops Q i K a w := by
 unfold Go.wpOp
 simp only [hi]
 rcases hy with ⟨hw, hv⟩ | ⟨hw, rfl⟩
 · simp only [hw, if_true]
   exact .inl (outOK_upon (fun v' w' ⟨e, H'⟩ => by subst e; exact h w' H') _ (hv L w hL H))
 · simp only [hw, Bool.false_eq_true, if_false]
   exact h w H
theorem GY.of_yields {o : Oper} {v : Value} {a : Act} (hy : YieldsIf P ops (fun w => At w0 F w) o v a) : GY P ops w0 F o v a := by
 rcases hy with ⟨hw, hv⟩ | h
 · refine .inl ⟨hw, fun L w hL H => ?_⟩
   rw [hv w (H.imp hL)]
   exact ⟨rfl, H⟩
 · exact .inr h
theorem GY.of_free {o : Oper} {v : Value} {a : Act} (hy : YieldsIf P ops (fun _ => True) o v a) : GY P ops w0 [] o v a := by
 rcases hy with ⟨hw, hv⟩ | h
 · refine .inl ⟨hw, fun L w hL H => ?_⟩
   rw [hv w trivial]
   exact ⟨rfl, H⟩
 · exact .inr h
theorem GY.call {o : Oper} {a : Act} (hw : Region.wanted o (yielded ops a.tmps) = true) (f : FuncId) (args : Array Operand) (ts : Array TypeId) (ho : o.op = .call { callee := .value (.func f), args := args, argTypes := ts }) {fn : Func} (hf : P.funcs[f]? = some fn)
    (hb : fn.body.isSome = true) (hn : (fn.name == "runtime.NumGoroutine") = false) {v : Value} (h : ∀ L w, Imp L F → At w0 L w → Calls P f (args.map a.eval) w fun e w' => e = .returned v ∧ At w0 L w') : GY P ops w0 F o v a := by
 refine .inl ⟨hw, fun L w hL H => ?_⟩
 have hb2 : fn.body.isNone = false := by cases h2 : fn.body <;> simp_all
 unfold execOp
 simp only [ho, resolve, Act.eval, Deferred.ofValue, Sem.run_bind, Sem.run_pure, Result.andThen_ok, invoke, callFunc, program, Sem.run, hf, hn, hb2, Bool.false_eq_true, if_false]
 simp only [Array.empty_append, Array.append_empty, outOK]
 refine (h L w hL H).mono fun e w'' he => ?_
 obtain ⟨rfl, he⟩ := he
 exact ⟨rfl, he⟩
theorem wpOp_keep {Y : Act → Prop} {j : Nat} {oi oj : Oper} {v : Value} (hj : ops[j]? = some oj) (hap : oi.apart ops oj = true) (hsj : ∀ cs b, oj.op ≠ .select cs b)
    (hQ : ∀ c a w, Q (.panic c) (a.put oi.dst v) w → Q (.panic c) a w) (hY : ∀ a u, Y a → Y (a.put oj.dst u)) (hYd : ∀ (a : Act) d, Y a → Y { a with defers := d :: a.defers })
    {K : Act → World → Prop} {a : Act} {w : World} (hy : Y a) (h : wpOp P ops Q j K (a.put oi.dst v) w) : wpOp P ops Q j (fun a' w' => Y a' ∧ K (a'.put oi.dst v) w') a w := by
 obtain ⟨a1, a2, a3⟩ := Oper.apart_spec hap
 have comm : ∀ (b : Act) u, (b.put oi.dst v).put oj.dst u = (b.put oj.dst u).put oi.dst v := fun b u => Act.put_comm b v u a2
 have eo := execOp_put oj hsj a oi.dst v a1
 unfold wpOp at *
 simp only [hj] at *
 rw [wanted_put oj a oi.dst v a1] at h
 cases hw : Region.wanted oj (yielded ops a.tmps) with
 | false =>
  simp only [hw, Bool.false_eq_true, if_false] at h ⊢
  exact ⟨hY a _ hy, by rw [← comm]; exact h⟩
 | true =>
  simp only [hw, if_true] at h ⊢
  rcases h with h | ⟨has, hl⟩
  · left
    unfold Oper.wp at *
    rw [eo] at h
    revert h
    generalize (execOp a.eval oj).run P w = r
    intro h
    cases r with
    | halt x w' =>
     cases x with
     | panic u => exact hQ _ _ _ h
     | _ => exact h.elim
    | ok n w' =>
     cases n with
     | value u => exact ⟨hY a u hy, by rw [← comm]; exact h⟩
     | skip => exact ⟨hY a undef hy, by rw [← comm]; exact h⟩
     | defer d => exact ⟨hY _ undef (hYd a d hy), by rw [← comm, ← Act.put_defers]; exact h⟩
     | enter f args =>
      refine Calls.mono h fun e w'' he => ?_
      cases e with
      | returned u => exact ⟨hY a u hy, by rw [← comm]; exact he⟩
      | panicked c => exact hQ _ _ _ he
      | outgrown => exact he
     | row row args => exact Rows.mono h fun u w'' he => ⟨hY a u hy, by rw [← comm]; exact he⟩
     | _ => exact h.elim
  · right
    refine ⟨?_, hl⟩
    unfold Oper.asks at *
    rw [eo] at has
    exact has
def wpD (P : Program) (md : Region.Mode) (ops : Array Oper) (Q : Exit → Act → World → Prop) (w0 : World) (F : List SP) (ex : List Nat) : Nat → List SP → Array Bool → Act → Prop
 | 0, L, listed, a => ∀ w, At w0 L w → Region.ready md ops listed = [] ∧ Q .normal a w
 | fuel + 1, L, listed, a => ∀ w, At w0 L w → (Region.ready md ops listed = [] → Q .normal a w) ∧
     ∀ i ∈ Region.ready md ops listed, wpOp P ops Q i (fun a' w' => ∃ L', (i ∈ ex ∨ Imp L' L ∨ Imp L' F) ∧ At w0 L' w' ∧ wpD P md ops Q w0 F ex fuel L' (listed.setIfInBounds i true) a') a w
theorem wpD_any : ∀ (fuel : Nat) (L : List SP) (listed : Array Bool) (a : Act) (w : World), At w0 L w → wpD P md ops Q w0 F ex fuel L listed a → wpAny P md ops Q fuel listed a w
 | 0, _, _, _, w, H, h => h w H
 | fuel + 1, _, _, _, w, H, h => ⟨(h w H).1, fun i hi => wpOp_mono (fun _ w' ⟨L', _, H', h'⟩ => wpD_any fuel L' _ _ w' H' h') ((h w H).2 i hi)⟩
theorem wpD_first {i : Nat} {oi : Oper} {v : Value} (hi : ops[i]? = some oi) (hsel : ∀ (j : Nat) (o : Oper) cs b, ops[j]? = some o → o.op ≠ .select cs b)
    (hQ : ∀ c a w, Q (.panic c) (a.put oi.dst v) w → Q (.panic c) a w)
    (hT : ∀ j oj L', ops[j]? = some oj → j ≠ i → (∀ e ∈ oj.after, Region.binds md e = true → e.on ≠ i) → (j ∈ ex ∨ Imp L' F) → Imp L' F') :
    ∀ (fuel : Nat) (L : List SP) (listed : Array Bool) (a : Act),
     (∀ j oj, ops[j]? = some oj → j ≠ i → listed.getD j true = false → (∀ e ∈ oj.after, Region.binds md e = true → e.on ≠ i) → oi.apart ops oj = true) →
     i ∈ Region.ready md ops listed → GY P ops w0 F' oi v a → Imp L F' →
     wpD P md ops Q w0 F ex fuel L (listed.setIfInBounds i true) (a.put oi.dst v) → wpD P md ops Q w0 F ex (fuel + 1) L listed a := by
 intro fuel
 induction fuel with
 | zero =>
  intro L listed a _ hr hy hL H w Hw
  refine ⟨fun h => (by rw [h] at hr; cases hr), fun j hj => ?_⟩
  by_cases hji : j = i
  · subst hji
    exact hy.wpOp hi hL Hw fun w' H' => ⟨L, .inr (.inl (Imp.refl L)), H', H⟩
  · have := ready_mono hj hji
    rw [(H w Hw).1] at this
    cases this
 | succ fuel ih =>
  intro L listed a hfree hr hy hL H w Hw
  refine ⟨fun h => (by rw [h] at hr; cases hr), fun j hj => ?_⟩
  by_cases hji : j = i
  · subst hji
    exact hy.wpOp hi hL Hw fun w' H' => ⟨L, .inr (.inl (Imp.refl L)), H', H⟩
  · have h1 := (H w Hw).2 j (ready_mono hj hji)
    obtain ⟨hjun, oj, hoj, hall⟩ := mem_ready.1 hj
    have hnot : ∀ e ∈ oj.after, Region.binds md e = true → e.on ≠ i := fun e he hb heq => by
     have h1 := hall e he hb
     have h0 := (mem_ready.1 hr).1
     rw [heq] at h1
     rcases Nat.lt_or_ge i listed.size with h' | h'
     · simp [h'] at h0 h1; rw [h0] at h1; cases h1
     · simp [Array.getElem?_eq_none h'] at h1
    have hap := hfree j oj hoj hji hjun hnot
    have hap3 := (Oper.apart_spec hap).2.2
    have h2 := wpOp_keep (Y := GY P ops w0 F' oi v) hoj hap (fun cs b => hsel j oj cs b hoj) hQ
     (fun b u hb => hb.of_same (execOp_put oi (fun cs b => hsel i oi cs b hi) b oj.dst u hap3) (wanted_put oi b oj.dst u hap3)) (fun b d hb => hb.of_same rfl rfl) hy h1
    have hfree' : ∀ k ok, ops[k]? = some ok → k ≠ i → (listed.setIfInBounds j true).getD k true = false →
        (∀ e ∈ ok.after, Region.binds md e = true → e.on ≠ i) → oi.apart ops ok = true := fun k ok hk hki hun hno => by
     refine hfree k ok hk hki ?_ hno
     by_cases hjk : j = k
     · subst hjk; exact hjun
     · rw [getD_set_ne true hjk] at hun; exact hun
    refine wpOp_mono (fun a' w' ⟨hy', L', hc, H', h'⟩ => ?_) h2
    have hL' : Imp L' F' := by
     rcases hc with h | h | h
     · exact hT j oj L' hoj hji hnot (.inl h)
     · exact h.trans hL
     · exact hT j oj L' hoj hji hnot (.inr h)
    refine ⟨L', hc, H', ih L' (listed.setIfInBounds j true) a' hfree' (ready_mono hr (Ne.symm hji)) hy' hL' ?_⟩
    rw [Array.setIfInBounds_comm _ _ hji]
    exact h'
inductive Sq where
 | nil : Sq
 | nx : Nat → Sq → Sq
 | tk : Nat → Sq → Sq
 | fr : Nat → Sq → Sq
 | al : Nat → Nat → Sq → Sq
 | two : Nat → Nat → Sq → Sq → Sq
def Sq.many : Sq → Nat
 | .nil => 0
 | .nx _ r => r.many + 1
 | .tk _ r => r.many + 1
 | .fr _ r => r.many + 1
 | .al _ _ r => r.many + 2
 | .two _ _ r _ => r.many + 1
def okD (md : Region.Mode) (ops : Array Oper) (ex : List Nat) : Sq → Array Bool → Bool
 | .nil, listed => Region.ready md ops listed == []
 | .nx i r, listed => (Region.ready md ops listed == [i]) && okD md ops ex r (listed.setIfInBounds i true)
 | .tk i r, listed => Region.free md ops listed i && (Region.ready md ops listed).contains i && exOK md ops ex i && decide (i < ops.size) && okD md ops ex r (listed.setIfInBounds i true)
 | .fr i r, listed => Region.free md ops listed i && (Region.ready md ops listed).contains i && decide (i < ops.size) && okD md ops ex r (listed.setIfInBounds i true)
 | .al i j r, listed => (Region.ready md ops listed == [i, j]) && (Region.ready md ops (listed.setIfInBounds i true) == [j]) && (Region.ready md ops (listed.setIfInBounds j true) == [i]) && decide (i ≠ j) && okD md ops ex r ((listed.setIfInBounds i true).setIfInBounds j true)
 | .two i j r s, listed => (Region.ready md ops listed == [i, j]) && (r.many == s.many) && okD md ops ex r (listed.setIfInBounds i true) && okD md ops ex s (listed.setIfInBounds j true)
def wpS (P : Program) (md : Region.Mode) (ops : Array Oper) (Q : Exit → Act → World → Prop) (w0 : World) (F : List SP) (ex : List Nat) (steps : Sq) (L : List SP) (a : Act) : Prop :=
 ∀ listed, (okD md ops ex steps listed && Region.noSelect ops) = true → wpD P md ops Q w0 F ex (steps.many) L listed a
theorem wpS_begin {id : Nat} {a : Act} {w : World} {L : List SP} (ex : List Nat) (F : List SP) (steps : Sq) (hn : ops.size = steps.many) (hk : (okD .any ops ex steps (Array.replicate ops.size false) && Region.noSelect ops) = true) (hm : P.follows .mixedOrders = true) (H : At w0 L w)
    (h : ∀ os, Hid (os = ops) → wpS P .any os Q w0 F ex steps L a) : (Code.region id ops true).wp P Q a w := by
 have h2 := h ops rfl _ hk
 rw [← hn] at h2
 exact wp_region_any hm (wpD_any _ _ _ _ _ H.drew h2)
variable {os : Array Oper} {steps r t : Sq} {L : List SP}
theorem wpS_take {i : Nat} (ho : Hid (os = ops)) {oi : Oper} {v : Value} {a : Act} {rest : List Oper} (hi' : ops.toList.drop i = oi :: rest)
    (hQ : ∀ c a w, Q (.panic c) (a.put oi.dst v) w → Q (.panic c) a w) (hL : Imp L F) (hy : GY P ops w0 F oi v a)
    (h : wpS P md os Q w0 F ex steps L (a.put oi.dst v)) : wpS P md os Q w0 F ex (.tk i steps) L a := by
 have ho := ho.out
 subst ho
 have hi := op_at hi'
 intro listed hk
 simp only [okD, Bool.and_eq_true, decide_eq_true_eq] at hk
 obtain ⟨⟨⟨⟨⟨h2, h3⟩, h4⟩, h6⟩, h7⟩, h1⟩ := hk
 refine wpD_first hi (Region.noSelect_spec h1) hQ (fun j oj L' hj hne hno hc => ?_) _ L listed a (Region.free_spec hi h2) (by simpa using h3) hy hL (h _ (by simp only [Bool.and_eq_true]; exact ⟨h7, h1⟩))
 rcases hc with hc | hc
 · unfold exOK at h4
   have h5 := List.all_eq_true.1 h4 j hc
   rw [hj] at h5
   obtain ⟨e, he, h6⟩ := Array.any_eq_true'.1 h5
   simp only [Bool.and_eq_true, beq_iff_eq] at h6
   exact absurd h6.2 (hno e he h6.1)
 · exact hc
theorem wpS_free {i : Nat} (ho : Hid (os = ops)) {oi : Oper} {v : Value} {a : Act} {rest : List Oper} (hi' : ops.toList.drop i = oi :: rest)
    (hQ : ∀ c a w, Q (.panic c) (a.put oi.dst v) w → Q (.panic c) a w) (hy : YieldsIf P ops (fun _ => True) oi v a)
    (h : wpS P md os Q w0 F ex steps L (a.put oi.dst v)) : wpS P md os Q w0 F ex (.fr i steps) L a := by
 have ho := ho.out
 subst ho
 have hi := op_at hi'
 intro listed hk
 simp only [okD, Bool.and_eq_true, decide_eq_true_eq] at hk
 obtain ⟨⟨⟨⟨h2, h3⟩, h6⟩, h7⟩, h1⟩ := hk
 exact wpD_first (F' := []) hi (Region.noSelect_spec h1) hQ (fun _ _ L' _ _ _ _ => Imp.nil L') _ L listed a (Region.free_spec hi h2) (by simpa using h3) (GY.of_free hy) (Imp.nil L) (h _ (by simp only [Bool.and_eq_true]; exact ⟨h7, h1⟩))
theorem wpS_fcall {i : Nat} (ho : Hid (os = ops)) {oi : Oper} {v : Value} {a : Act} {rest : List Oper} (hi' : ops.toList.drop i = oi :: rest)
    (hQ : ∀ c a w, Q (.panic c) (a.put oi.dst v) w → Q (.panic c) a w) (hy : GY P ops w0 [] oi v a)
    (h : wpS P md os Q w0 F ex steps L (a.put oi.dst v)) : wpS P md os Q w0 F ex (.fr i steps) L a := by
 have ho := ho.out
 subst ho
 have hi := op_at hi'
 intro listed hk
 simp only [okD, Bool.and_eq_true, decide_eq_true_eq] at hk
 obtain ⟨⟨⟨⟨h2, h3⟩, h6⟩, h7⟩, h1⟩ := hk
 exact wpD_first (F' := []) hi (Region.noSelect_spec h1) hQ (fun _ _ L' _ _ _ _ => Imp.nil L') _ L listed a (Region.free_spec hi h2) (by simpa using h3) hy (Imp.nil L) (h _ (by simp only [Bool.and_eq_true]; exact ⟨h7, h1⟩))
theorem wpS_next {i : Nat} (ho : Hid (os = ops)) {oi : Oper} {a : Act} {rest : List Oper} (hi' : ops.toList.drop i = oi :: rest)
    (hw : Region.wanted oi (yielded ops a.tmps) = true)
    (h : ∀ w, At w0 L w → ∀ K : Act → World → Prop, (∀ a w L', (i ∈ ex ∨ Imp L' L ∨ Imp L' F) → At w0 L' w → wpS P md os Q w0 F ex steps L' a → K a w) → OWp P oi a w K Q) : wpS P md os Q w0 F ex (.nx i steps) L a := by
 have ho := ho.out
 subst ho
 have hi := op_at hi'
 intro listed hk
 simp only [okD, Bool.and_eq_true, beq_iff_eq] at hk
 obtain ⟨⟨hr, h7⟩, h1⟩ := hk
 intro w H
 refine ⟨fun h0 => by rw [hr] at h0; simp at h0, fun j hj => ?_⟩
 rw [hr] at hj
 obtain rfl : j = i := by simpa using hj
 unfold wpOp
 simp only [hi, hw, if_true]
 exact .inl (OWp.out <| h w H _ fun a w L' hc H' h => ⟨L', hc, H', h _ (by simp only [Bool.and_eq_true]; exact ⟨h7, h1⟩)⟩)
theorem wpS_two {i j : Nat} (ho : Hid (os = ops)) {oi oj : Oper} {a : Act} {rest rest' : List Oper} (hi' : ops.toList.drop i = oi :: rest) (hj' : ops.toList.drop j = oj :: rest')
    (hw : Region.wanted oi (yielded ops a.tmps) = true) (hw' : Region.wanted oj (yielded ops a.tmps) = true)
    (h : ∀ w, At w0 L w → ∀ K : Act → World → Prop, (∀ a w L', (i ∈ ex ∨ Imp L' L ∨ Imp L' F) → At w0 L' w → wpS P md os Q w0 F ex r L' a → K a w) → OWp P oi a w K Q)
    (h' : ∀ w, At w0 L w → ∀ K : Act → World → Prop, (∀ a w L', (j ∈ ex ∨ Imp L' L ∨ Imp L' F) → At w0 L' w → wpS P md os Q w0 F ex t L' a → K a w) → OWp P oj a w K Q) : wpS P md os Q w0 F ex (.two i j r t) L a := by
 have ho := ho.out
 subst ho
 have hi := op_at hi'
 have hj := op_at hj'
 intro listed hk
 simp only [okD, Bool.and_eq_true, beq_iff_eq] at hk
 obtain ⟨⟨⟨⟨hr, hm⟩, h7⟩, h8⟩, h1⟩ := hk
 intro w H
 refine ⟨fun h0 => by rw [hr] at h0; simp at h0, fun k hk => ?_⟩
 rw [hr] at hk
 rcases (by simpa using hk : k = i ∨ k = j) with rfl | rfl
 · unfold wpOp
   simp only [hi, hw, if_true]
   exact .inl (OWp.out <| h w H _ fun a w L' hc H' h => ⟨L', hc, H', h _ (by simp only [Bool.and_eq_true]; exact ⟨h7, h1⟩)⟩)
 · unfold wpOp
   simp only [hj, hw', if_true]
   exact .inl (OWp.out <| h' w H _ fun a w L' hc H' h => ⟨L', hc, H', by rw [hm]; exact h _ (by simp only [Bool.and_eq_true]; exact ⟨h8, h1⟩)⟩)
theorem wpS_end {a : Act} (h : ∀ w, At w0 L w → Q .normal a w) : wpS P md os Q w0 F ex .nil L a := by
 intro listed hk w H
 simp only [okD, Bool.and_eq_true, beq_iff_eq] at hk
 exact ⟨hk.1, h w H⟩
end
end Go.Hg
namespace Go.Hg
open Go.RowKit
section
variable {P : Program} {ops os : Array Oper} {Q : Exit → Act → World → Prop} {md : Region.Mode} {ex : List Nat} {i : Nat} {oi : Oper} {v : Value} {a a' : Act} {rest : List Oper} {w0 : World} {F L : List SP} {steps : Sq}
theorem fs (ho : Hid (os = ops)) (h : wpS P md os Q w0 F ex steps L a') (hi' : ops.toList.drop i = oi :: rest := by rfl) (hQ : ∀ c a w, Q (.panic c) (a.put oi.dst v) w → Q (.panic c) a w := by exact fun _ _ _ h => h)
    (hy : YieldsIf P ops (fun _ => True) oi v a := by first | exact yl_move rfl _ rfl | exact yl_nil rfl _ rfl _ rfl | exact yl rfl (by intro w hw; go_simp; first | done | rfl)) (ha : a.put oi.dst v = a' := by simp only [nrm]; first | done | rfl) : wpS P md os Q w0 F ex (.fr i steps) L a :=
  wpS_free ho hi' hQ hy (by rw [ha]; exact h)
theorem fn (ho : Hid (os = ops)) (h : wpS P md os Q w0 F ex steps L a') (hi' : ops.toList.drop i = oi :: rest := by rfl) (hw : Region.wanted oi (yielded ops a.tmps) = false := by rfl) (hQ : ∀ c a w, Q (.panic c) (a.put oi.dst undef) w → Q (.panic c) a w := by exact fun _ _ _ h => h)
    (ha : a.put oi.dst undef = a' := by simp only [nrm]; first | done | rfl) : wpS P md os Q w0 F ex (.fr i steps) L a :=
  wpS_free ho hi' hQ (yn hw) (by rw [ha]; exact h)
theorem ts (ho : Hid (os = ops)) (hc : ∀ w, At w0 F w → w.cell? (ld ops i a) = some v) (h : wpS P md os Q w0 F ex steps L a') (hi' : ops.toList.drop i = oi :: rest := by rfl) (hw : Region.wanted oi (yielded ops a.tmps) = true := by rfl) {ty : TypeId} {x : Operand} (hl : oi.op = .load ty x := by rfl) (hx : a.eval x = .pointer (some (ld ops i a)) := by rfl)
    (hk : oneType P ty = true := by kernel_rfl) (hQ : ∀ c a w, Q (.panic c) (a.put oi.dst v) w → Q (.panic c) a w := by exact fun _ _ _ h => h)
    (hL : Imp L F := by first | exact Imp.refl _ | exact (Imp.refl _).more _ | exact ((Imp.refl _).more _).more _ | exact seps_pick _ _ (by repeat (first | exact List.Sublist.refl _ | exact List.nil_sublist _ | apply List.Sublist.cons_cons | apply List.Sublist.cons))) (ha : a.put oi.dst v = a' := by simp only [nrm]; first | done | rfl) : wpS P md os Q w0 F ex (.tk i steps) L a :=
  wpS_take ho hi' hQ hL (GY.of_yields (yl_get hw ty x hl hx hk hc)) (by rw [ha]; exact h)
theorem pk {L M : List SP} (h : Imp L M := by first | exact Imp.refl _ | exact (Imp.refl _).more _ | exact ((Imp.refl _).more _).more _ | exact seps_pick _ _ (by repeat (first | exact List.Sublist.refl _ | exact List.nil_sublist _ | apply List.Sublist.cons_cons | apply List.Sublist.cons))) : Imp L M := h
end
end Go.Hg
