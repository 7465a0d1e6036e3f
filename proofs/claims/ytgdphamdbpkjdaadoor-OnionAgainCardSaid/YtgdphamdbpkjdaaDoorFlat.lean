/-
  Structs and arrays of numbers and bools, at whatever depth: two are equal just if their cells are. No program in sight.
-/
import Derived.Test.YtgdphamdbpkjdaaDoorBlk
import Derived.DeepKeys
namespace Go.Hg
open Go.RowKit
set_option linter.unusedVariables false
/-- What a cell of a flat type is. -/
inductive LK where
  | b
  | i (k : IntKind)
deriving DecidableEq
/-- The cells of a struct's fields, one behind the other. -/
def flatFs (P : Program) (g : TypeId → Option (List LK)) : Nat → List Field → Option (List LK)
  | _, [] => some []
  | off, f :: fs => if f.name ≠ "_" ∧ f.offset = off then (g f.type).bind fun ks => if P.cellsOf f.type = ks.length then (flatFs P g (off + ks.length) fs).map (ks ++ ·) else none else none
/-- The cells of a flat type. -/
def flatK (P : Program) : Nat → TypeId → Option (List LK)
  | 0, _ => none
  | d + 1, t => match P.underlying t with
    | some .bool => some [.b]
    | some (.int q) => some [.i q]
    | some (.array n e) => (flatK P d e).bind fun ks => if P.cellsOf e = ks.length ∧ P.cellsOf t = n * ks.length then some (List.replicate n ks).flatten else none
    | some (.struct fs) => (flatFs P (flatK P d) 0 fs.toList).bind fun ks => if P.cellsOf t = ks.length then some ks else none
    | _ => none
def fit1 : LK → Value → Prop
  | .b, .bool _ => True
  | .i q, .int q' n => q' = q ∧ (Lit.int q n).wf = true
  | _, _ => False
def fits : List LK → List Value → Prop
  | [], [] => True
  | k :: ks, v :: vs => fit1 k v ∧ fits ks vs
  | _, _ => False
def litOf : Value → Lit
  | .bool b => .bool b
  | .int k n => .int k n
  | _ => .bool false
theorem fits_length : ∀ {ks : List LK} {vs : List Value}, fits ks vs → vs.length = ks.length
  | [], [], _ => rfl
  | k :: ks, v :: vs, h => by simp [fits_length h.2]
  | [], _ :: _, h => h.elim
  | _ :: _, [], h => h.elim
theorem fits_drop : ∀ {ks : List LK} {vs : List Value} (n : Nat), fits ks vs → fits (ks.drop n) (vs.drop n)
  | _, _, 0, h => h
  | [], [], n + 1, _ => by simp [fits]
  | k :: ks, v :: vs, n + 1, h => fits_drop n h.2
  | [], _ :: _, _ + 1, h => h.elim
  | _ :: _, [], _ + 1, h => h.elim
theorem fits_take : ∀ {ks : List LK} {vs : List Value} (n : Nat), fits ks vs → fits (ks.take n) (vs.take n)
  | _, _, 0, h => by simp [fits]
  | [], [], n + 1, _ => by simp [fits]
  | k :: ks, v :: vs, n + 1, h => ⟨h.1, fits_take n h.2⟩
  | [], _ :: _, _ + 1, h => h.elim
  | _ :: _, [], _ + 1, h => h.elim
theorem fits_append : ∀ {as bs : List LK} {xs ys : List Value}, fits as xs → fits bs ys → fits (as ++ bs) (xs ++ ys)
  | [], _, [], _, _, h => h
  | k :: ks, _, v :: vs, _, h, h2 => ⟨h.1, fits_append h.2 h2⟩
  | [], _, _ :: _, _, h, _ => h.elim
  | _ :: _, _, [], _, h, _ => h.elim
theorem mapM_some_of {α β : Type} {f : α → Option β} {g : α → β} : ∀ {l : List α}, (∀ x ∈ l, f x = some (g x)) → l.mapM f = some (l.map g)
  | [], _ => rfl
  | x :: l, h => by
    rw [List.mapM_cons, h x (by simp), mapM_some_of fun y hy => h y (by simp [hy])]
    rfl
theorem seg_flat (m : Nat) : ∀ (n : Nat) (cs : List Value), cs.length = n * m → ((List.range n).map fun i => (cs.drop (i * m)).take m).flatten = cs
  | 0, cs, h => by
    have : cs = [] := List.eq_nil_of_length_eq_zero (by simpa using h)
    simp [this]
  | n + 1, cs, h => by
    have e : n * m + m = (n + 1) * m := by rw [Nat.add_mul, Nat.one_mul]
    have h1 : (cs.take (n * m)).length = n * m := by rw [List.length_take]; omega
    rw [List.range_succ, List.map_append, List.flatten_append]
    have ih := seg_flat m n (cs.take (n * m)) h1
    have e2 : ((List.range n).map fun i => (cs.drop (i * m)).take m) = (List.range n).map fun i => ((cs.take (n * m)).drop (i * m)).take m := by
      apply List.map_congr_left
      intro i hi
      have hi' := List.mem_range.1 hi
      have h3 : (i + 1) * m ≤ n * m := Nat.mul_le_mul_right _ hi'
      rw [Nat.add_mul, Nat.one_mul] at h3
      rw [List.drop_take, List.take_take, Nat.min_eq_left (by omega)]
    rw [e2, ih]
    simp only [List.map_cons, List.map_nil, List.flatten_cons, List.flatten_nil, List.append_nil]
    rw [List.take_of_length_le (l := cs.drop (n * m)) (by rw [List.length_drop]; omega), List.take_append_drop]
theorem rep_seg {ks : List LK} {n i : Nat} (hi : i < n) : ((List.replicate n ks).flatten.drop (i * ks.length)).take ks.length = ks := by
  obtain ⟨k, rfl⟩ : ∃ k, n = i + (k + 1) := ⟨n - i - 1, by omega⟩
  rw [← List.replicate_append_replicate, List.flatten_append, List.replicate_succ, List.flatten_cons]
  have hl : (List.replicate i ks).flatten.length = i * ks.length := by simp
  rw [← hl, List.drop_left, List.take_left]
theorem rep_length (ks : List LK) (n : Nat) : (List.replicate n ks).flatten.length = n * ks.length := by simp
/-- The cells of a flat type, as a key's letters. -/
theorem keyLits_flat {P : Program} : ∀ (d : Nat) (t : TypeId) (ks : List LK) (cs : List Value), flatK P d t = some ks → fits ks cs → P.keyLits d t cs = some (cs.map litOf) := by
  intro d
  induction d with
  | zero => intro t ks cs h; simp [flatK] at h
  | succ d ih =>
    intro t ks cs h hf
    unfold flatK at h
    unfold Program.keyLits
    cases hu : P.underlying t with
    | none => simp [hu] at h
    | some kd =>
      cases kd
      case bool =>
        simp [hu] at h
        subst h
        match cs, hf with
        | [.bool b], _ => rfl
        | .int _ _ :: _, h => exact h.1.elim
      case int q =>
        simp [hu] at h
        subst h
        match cs, hf with
        | [.int q' n], h => simp [h.1.1, h.1.2, litOf]
        | .bool _ :: _, h => exact h.1.elim
      case array n e =>
        simp only [hu, Option.bind_eq_some_iff] at h
        obtain ⟨ke, he, h⟩ := h
        split at h
        · rename_i hc
          cases h
          have hl : cs.length = n * ke.length := by rw [fits_length hf, rep_length]
          simp only [hc.1, hc.2, hl, if_true]
          rw [mapM_some_of (g := fun i => ((cs.drop (i * ke.length)).take ke.length).map litOf) fun i hi => ih e ke _ he (by
            have h1 := fits_take ke.length (fits_drop (i * ke.length) hf)
            rwa [rep_seg (List.mem_range.1 hi)] at h1)]
          have e3 : (List.map (fun i => List.map litOf (List.take ke.length (List.drop (i * ke.length) cs))) (List.range n)) = ((List.range n).map fun i => (cs.drop (i * ke.length)).take ke.length).map (List.map litOf) := by rw [List.map_map]; rfl
          rw [e3, Option.map_some, ← List.map_flatten, seg_flat ke.length n cs hl]
        · cases h
      case struct fs =>
        simp only [hu, Option.bind_eq_some_iff] at h
        obtain ⟨kf, hk, h⟩ := h
        split at h
        · rename_i hc
          cases h
          have hl : cs.length = P.cellsOf t := by rw [fits_length hf, hc]
          have key : ∀ (l : List Field) (off : Nat) (kl : List LK), flatFs P (flatK P d) off l = some kl → fits kl (cs.drop off) →
              (l.all (·.name != "_") = true) ∧ (l.mapM fun f => P.keyLits d f.type ((cs.drop f.offset).take (P.cellsOf f.type))).map List.flatten = some ((cs.drop off).map litOf) := by
            intro l
            induction l with
            | nil =>
              intro off kl h1 h2
              cases h1
              have : cs.drop off = [] := List.eq_nil_of_length_eq_zero (by rw [fits_length h2]; rfl)
              rw [this]
              exact ⟨rfl, rfl⟩
            | cons f l ihl =>
              intro off kl h1 h2
              unfold flatFs at h1
              split at h1
              · rename_i hn
                simp only [Option.bind_eq_some_iff] at h1
                obtain ⟨k1, g1, h1⟩ := h1
                split at h1
                · rename_i hc1
                  obtain ⟨k2, g2, h1⟩ := Option.map_eq_some_iff.1 h1
                  subst h1
                  have f1 : fits k1 ((cs.drop off).take k1.length) := by
                    have := fits_take k1.length h2
                    rwa [List.take_left] at this
                  have f2 : fits k2 (cs.drop (off + k1.length)) := by
                    have := fits_drop k1.length h2
                    rwa [List.drop_left, List.drop_drop] at this
                  obtain ⟨a1, a2⟩ := ihl _ _ g2 f2
                  refine ⟨by simp [hn.1]; simpa using a1, ?_⟩
                  obtain ⟨r, r1, r2⟩ := Option.map_eq_some_iff.1 a2
                  rw [List.mapM_cons, hn.2, hc1, ih f.type k1 _ g1 f1, r1]
                  show some (_ :: r).flatten = _
                  rw [List.flatten_cons, r2, ← List.map_append, ← List.drop_drop, List.take_append_drop]
                · cases h1
              · cases h1
          obtain ⟨a1, a2⟩ := key fs.toList 0 _ hk (by simpa using hf)
          have a1' : fs.all (·.name != "_") = true := by rw [← Array.all_toList]; exact a1
          simp only [hl, a1', and_self, if_true]
          simpa using a2
        · cases h
      all_goals simp [hu] at h
theorem litOf_inj : ∀ {ks : List LK} {xs ys : List Value}, fits ks xs → fits ks ys → (xs.map litOf = ys.map litOf ↔ xs = ys)
  | [], [], [], _, _ => by simp
  | k :: ks, x :: xs, y :: ys, h, h2 => by
    have ih := litOf_inj h.2 h2.2
    simp only [List.map_cons, List.cons.injEq, ih]
    have : litOf x = litOf y ↔ x = y := by
      cases k with
      | b =>
        cases x <;> try exact h.1.elim
        cases y <;> try exact h2.1.elim
        simp [litOf]
      | i q =>
        cases x <;> try exact h.1.elim
        cases y <;> try exact h2.1.elim
        simp [litOf]
    rw [this]
  | [], _ :: _, _, h, _ => h.elim
  | _ :: _, [], _, h, _ => h.elim
  | [], [], _ :: _, _, h => h.elim
  | _ :: _, _ :: _, [], _, h => h.elim
/-- Are these cells the same? -/
noncomputable def eqB (xs ys : List Value) : Bool := @decide (xs = ys) (Classical.propDecidable _)
theorem eqB_iff {xs ys : List Value} : eqB xs ys = true ↔ xs = ys := by unfold eqB; exact @decide_eq_true_iff _ (Classical.propDecidable _)
theorem eqB_refl (xs : List Value) : eqB xs xs = true := eqB_iff.2 rfl
theorem eqB_ne {xs ys : List Value} (h : xs ≠ ys) : eqB xs ys = false := by
  cases e : eqB xs ys with
  | false => rfl
  | true => exact absurd (eqB_iff.1 e) h
section
variable {P : Program} {t : TypeId} {ks : List LK} {xs ys : List Value}
/-- Two of a flat type: equal just if their cells are. -/
theorem run_equalIn_flat {m : Nat} (hm : m ≤ 10000) (hk : P.keyTypeAt m t = true) (hr : (match P.underlying t with | some (.struct _) => true | some (.array _ _) => true | _ => false) = true) (hf : flatK P m t = some ks) (hc : P.cellsOf t = ks.length) (hx : fits ks xs) (hy : fits ks ys) (w : World) :
    (Op.equalIn 10000 t (.agg xs.toArray) (.agg ys.toArray)).run P w = .ok (eqB xs ys) w := by
  have h := run_equalIn_deep (P := P) (10000 - m) m t hk
  rw [show 10000 - m + m = 10000 by omega] at h
  have hform : ∀ zs : List Value, fits ks zs → (Value.agg zs.toArray).formed P t = true := fun zs hz => by
    have := fits_length hz
    unfold Value.formed
    split at hr <;> simp_all
  obtain ⟨r, h1, h2⟩ := h w m m (.agg xs.toArray) (.agg ys.toArray) _ _ (hform xs hx) (hform ys hy) (keyLits_flat m t ks xs hf hx) (keyLits_flat m t ks ys hf hy)
  rw [litOf_inj hx hy] at h2
  rw [h1]
  congr 1
  cases r
  · exact (eqB_ne fun e => absurd (h2.2 e) (by simp)).symm
  · exact (eqB_iff.2 (h2.1 rfl)).symm
variable {o : Oper} {ρ : Operand → Value} {w : World} {x y : Operand} {yt : TypeId}
theorem guard_flat (op : BinOp) (hg : P.eqGuardType P.depth t = false) (as bs : Array Value) : (eqGuard op t x y (.agg as) (.agg bs)).run P w = .ok () w := guard_bytes op hg as bs
theorem exec_neq_flat (ho : o.op = .binOp .neq t x y yt) (hx : ρ x = .agg xs.toArray) (hy : ρ y = .agg ys.toArray) {m : Nat} (hm : m ≤ 10000) (hk : P.keyTypeAt m t = true) (hr : (match P.underlying t with | some (.struct _) => true | some (.array _ _) => true | _ => false) = true) (hf : flatK P m t = some ks) (hc : P.cellsOf t = ks.length)
    (hg : P.eqGuardType P.depth t = false) (hfx : fits ks xs) (hfy : fits ks ys) : (execOp ρ o).run P w = .ok (.value (.bool (!eqB xs ys))) w := by
  have h1 := run_equalIn_flat hm hk hr hf hc hfx hfy w
  have h2 := guard_flat (P := P) (w := w) (t := t) (x := x) (y := y) .neq hg xs.toArray ys.toArray
  unfold execOp
  simp only [ho, hx, hy, Sem.run_bind, h2, Result.andThen_ok, run_neq_struct, h1, Sem.run_pure]
theorem exec_eql_flat (ho : o.op = .binOp .eql t x y yt) (hx : ρ x = .agg xs.toArray) (hy : ρ y = .agg ys.toArray) {m : Nat} (hm : m ≤ 10000) (hk : P.keyTypeAt m t = true) (hr : (match P.underlying t with | some (.struct _) => true | some (.array _ _) => true | _ => false) = true) (hf : flatK P m t = some ks) (hc : P.cellsOf t = ks.length)
    (hg : P.eqGuardType P.depth t = false) (hfx : fits ks xs) (hfy : fits ks ys) : (execOp ρ o).run P w = .ok (.value (.bool (eqB xs ys))) w := by
  have h1 := run_equalIn_flat hm hk hr hf hc hfx hfy w
  have h2 := guard_flat (P := P) (w := w) (t := t) (x := x) (y := y) .eql hg xs.toArray ys.toArray
  unfold execOp
  simp only [ho, hx, hy, Sem.run_bind, h2, Result.andThen_ok, run_eql_struct, h1, Sem.run_pure]
end
theorem wf_u8 (b : BitVec 8) : (Lit.int .u8 (iv b)).wf = true := by
  have h0 := iv_nonneg b
  have h1 := iv8_le b
  have e1 : IntKind.u8.min = 0 := rfl
  have e2 : IntKind.u8.max = 255 := rfl
  simp [Lit.wf, e1, e2]
  omega
theorem fits_v8 : ∀ bs : List (BitVec 8), fits (List.replicate bs.length (.i .u8)) (v8 bs)
  | [] => trivial
  | b :: bs => ⟨⟨rfl, wf_u8 b⟩, fits_v8 bs⟩
end Go.Hg
