/-
  Slices of elements, whatever they are: a list, and how one element is written in cells. No program in sight.
-/
import Derived.Test.YtgdphamdbpkjdaaDoorBytes
namespace Go.Hg
open Go.RowKit
set_option linter.unusedVariables false
/-- How elements of a type are written: so many cells each, of the type's own. -/
structure El {α : Type} (P : Program) (e : TypeId) (size by_ : Nat) (c : α → List Value) : Prop where
  info : ∃ z, (P.info? e).map (fun i => (i.zero, i.size, i.bytes)) = some (some z, size, by_) ∧ z.cells.size = size
  len : ∀ x, (c x).length = size
  one : ∀ x, ∀ u ∈ c x, u.oneCell' = true
/-- The cells of a list. -/
def cl {α : Type} (c : α → List Value) (xs : List α) : List Value := xs.flatMap c
/-- An owned slice that holds a list. -/
def lrow {α : Type} (e : TypeId) (size : Nat) (c : α → List Value) (v : Value) (xs : List α) : SP := rows e size v xs.length (cl c xs)
section
variable {α : Type} {P : Program} {e : TypeId} {size by_ : Nat} {c : α → List Value} {w w0 : World} {L : List SP}
theorem cl_append (c : α → List Value) (xs ys : List α) : cl c (xs ++ ys) = cl c xs ++ cl c ys := List.flatMap_append
theorem El.cl_length (E : El P e size by_ c) (xs : List α) : (cl c xs).length = xs.length * size := by
  induction xs with
  | nil => simp [cl]
  | cons x xs ih =>
    have h := E.len x
    have : cl c (x :: xs) = c x ++ cl c xs := rfl
    rw [this, List.length_append, ih, h, List.length_cons, Nat.add_mul, Nat.one_mul, Nat.add_comm]
theorem El.one_cl (E : El P e size by_ c) (xs : List α) : ∀ u ∈ cl c xs, u.oneCell' = true := fun u hu => by
  obtain ⟨x, _, h⟩ := List.mem_flatMap.1 hu
  exact E.one x u h
theorem El.cl_elem (E : El P e size by_ c) {xs : List α} {i : Nat} {x : α} (hx : xs[i]? = some x) : elem size (cl c xs) i = c x := by
  unfold elem
  obtain ⟨hi, rfl⟩ := List.getElem?_eq_some_iff.1 hx
  have h1 : xs = xs.take i ++ (xs[i] :: xs.drop (i + 1)) := by rw [List.getElem_cons_drop, List.take_append_drop]
  have h2 : cl c xs = cl c (xs.take i) ++ (c xs[i] ++ cl c (xs.drop (i + 1))) := by
    conv => lhs; rw [h1, cl_append]
    rfl
  have h3 : (cl c (xs.take i)).length = i * size := by rw [E.cl_length, List.length_take, Nat.min_eq_left (by omega)]
  have h4 := E.len xs[i]
  rw [h2, ← h3, List.drop_left, ← h4, List.take_left]
theorem At.lrow_slice {v : Value} {xs : List α} (H : At w0 (lrow e size c v xs :: L) w) : ∃ a q, v = .slice a xs.length q := At.rows_slice H
/-- An element of an owned slice: its cells. -/
theorem lrow_at (E : El P e size by_ c) {xs : List α} {g off cap i : Nat} {x : α} (H : At w0 L w) (k : Nat) (hk : L[k]? = some (lrow e size c (.slice (some ⟨g, off, none⟩) xs.length cap) xs)) (hx : xs[i]? = some x) : w.rangeAt g (off + i * size) (c x) := by
  rw [← E.cl_elem hx]
  exact At.rows_elem (H.pull k hk) (List.getElem?_eq_some_iff.1 hx).1
/-- A slice with elements is at some place. -/
theorem lrow_place {xs : List α} {a : Option Addr} {q : Nat} (H : At w0 L w) (k : Nat) (hk : L[k]? = some (lrow e size c (.slice a xs.length q) xs)) (h0 : 0 < xs.length) : ∃ g off, a = some ⟨g, off, none⟩ := by
  rcases At.rows_value (H.pull k hk) with ⟨_, h, _⟩ | ⟨g, off, cap, h, _⟩
  · omega
  · cases h; exact ⟨g, off, rfl⟩
theorem lrow_nil (H : At w0 L w) (c : α → List Value) (e : TypeId) (size : Nat) : At w0 (lrow e size c (.slice none 0 0) [] :: L) w := H.rows_nil e size
theorem lrow_src (E : El P e size by_ c) (H : At w0 L w) (k : Nat) {x : Value} {ys : List α} (hk : L[k]? = some (lrow e size c x ys)) : Src P size w x ys.length (cl c ys) := by
  have hl := E.cl_length ys
  rcases At.rows_value (H.pull k hk) with ⟨rfl, h0, h1⟩ | ⟨g, off, cap, rfl, _, _, hc⟩
  · rw [h0, h1]; exact Src.none
  · refine Src.some hl (fun j u hj => ?_) (E.one_cl ys)
    have hlt := (List.getElem?_eq_some_iff.1 hj).1
    rw [Addr.add_lit, hc j (by omega)]
    exact hj
variable {o : Oper} {a : Act} {K : Act → World → Prop} {Q : Exit → Act → World → Prop}
/-- A new slice with no room. -/
theorem wp_lnew (E : El P e size by_ c) (t : TypeId) (ht : P.underlying t = some (.slice e)) (ho : o.op = .buildSlice t 0 #[]) (H : At w0 L w)
    (h : ∀ b w', At w0 (lrow e size c (.slice (some ⟨b, 0, none⟩) 0 0) [] :: L) w' → K (a.put o.dst (.slice (some ⟨b, 0, none⟩) 0 0)) w') : OWp P o a w K Q := by
  obtain ⟨z, hi, _⟩ := E.info
  exact wp_buildSlice0_sl _ ho ht hi H fun b w' H2 _ => h _ w' (At.rows_new H2 (n := 0) (cap := 0) (xs := []) (Nat.le_refl _) (by simp [maxLen]) (by simp) (by simp))
/-- What there is is appended. -/
theorem wp_lapp (E : El P e size by_ c) (t t2 : TypeId) (ht : P.underlying t = some (.slice e)) (ht2 : SrcType P t2) (s xo : Operand) (ho : o.op = .call { callee := .builtin .append, args := #[s, xo], argTypes := #[t, t2] }) {v : Value} (hs : a.eval s = v) {xs ys : List α}
    (H : At w0 (lrow e size c v xs :: L) w) {x : Value} (hxo : a.eval xo = x) (hx : Src P size w x ys.length (cl c ys)) (h63 : xs.length + ys.length ≤ maxLen) (hb : (xs.length + ys.length) * by_ ≤ 140737488355328)
    (h : ∀ b q w', At w0 (lrow e size c (.slice b (xs ++ ys).length q) (xs ++ ys) :: L) w' → K (a.put o.dst (.slice b (xs ++ ys).length q)) w') : OWp P o a w K Q := by
  obtain ⟨z, hi, hzs⟩ := E.info
  obtain ⟨i, hi, hz, hsz, hby⟩ := info_of hi
  refine owp (wp_append_sl (size := size) (v := v) (n := xs.length) (xs := cl c xs) (x := x) (m := ys.length) (news := cl c ys) s xo _ _ ho i z by_ ht ht2 hi hz hsz hby hzs hs H hxo hx h63 hb ?_)
  intro v' w' H2 _
  rw [← List.length_append, ← cl_append] at H2
  obtain ⟨b, q, rfl⟩ := At.rows_slice H2
  exact h b q w' H2
/-- All of another owned slice. -/
theorem wp_lapp_all (E : El P e size by_ c) (t : TypeId) (ht : P.underlying t = some (.slice e)) (s xo : Operand) (ho : o.op = .call { callee := .builtin .append, args := #[s, xo], argTypes := #[t, t] }) {v : Value} (hs : a.eval s = v) {xs ys : List α}
    (H : At w0 (lrow e size c v xs :: L) w) {x : Value} (hxo : a.eval xo = x) (k : Nat) (hk : L[k]? = some (lrow e size c x ys)) (h63 : xs.length + ys.length ≤ maxLen) (hb : (xs.length + ys.length) * by_ ≤ 140737488355328)
    (h : ∀ b q w', At w0 (lrow e size c (.slice b (xs ++ ys).length q) (xs ++ ys) :: L) w' → K (a.put o.dst (.slice b (xs ++ ys).length q)) w') : OWp P o a w K Q :=
  wp_lapp E t t ht (.inl ⟨_, ht⟩) s xo ho hs H hxo (lrow_src E H (k + 1) (by simpa using hk)) h63 hb h
/-- One, in a slice that was built for it. -/
theorem wp_lapp_one (E : El P e size by_ c) (t : TypeId) (ht : P.underlying t = some (.slice e)) (s xo : Operand) (ho : o.op = .call { callee := .builtin .append, args := #[s, xo], argTypes := #[t, t] }) {v : Value} (hs : a.eval s = v) {xs : List α} {y : α}
    (H : At w0 (lrow e size c v xs :: L) w) {C : Nat} (hxo : a.eval xo = .slice (some ⟨C, 0, none⟩) 1 1) (k : Nat) {cs : Array Value} (hk : L[k]? = some (raw C cs e)) (hy : cs.toList = c y) (h63 : xs.length + 1 ≤ maxLen) (hb : (xs.length + 1) * by_ ≤ 140737488355328)
    (h : ∀ b q w', At w0 (lrow e size c (.slice b (xs ++ [y]).length q) (xs ++ [y]) :: L) w' → K (a.put o.dst (.slice b (xs ++ [y]).length q)) w') : OWp P o a w K Q := by
  refine wp_lapp E t t ht (.inl ⟨_, ht⟩) (ys := [y]) s xo ho hs H hxo ?_ h63 hb h
  have hc := H.heap (k + 1) (by simpa using hk)
  have hl := E.len y
  refine Src.some (by simp [cl, hl]) (fun j u hj => ?_) (E.one_cl _)
  rw [Addr.add_lit, raw_cell hc, Nat.zero_add, ← Array.getElem?_toList, hy]
  simpa [cl] using hj
/-- A slice of one element is built. -/
theorem wp_lbuild (E : El P e size by_ c) (t : TypeId) (ht : P.underlying t = some (.slice e)) (x : Operand) (ho : o.op = .buildSlice t 1 #[(0, x)]) {v : Value} (hx : a.eval x = v) {y : α} (hv : v.cells = (c y).toArray) (h0 : size ≠ 0) (hm : size ≤ 16777216) (H : At w0 L w)
    (h : ∀ b w', At w0 (raw b (c y).toArray e :: L) w' → K (a.put o.dst (.slice (some ⟨b, 0, none⟩) 1 1)) w') : OWp P o a w K Q := by
  obtain ⟨z, hi, hzs⟩ := E.info
  refine wp_buildSlice_sl _ _ ho ht hi hzs hx (by rw [hv]; simpa using E.len y) h0 hm H fun b w' H2 _ => ?_
  rw [hv] at H2
  exact h b w' H2
/-- A cell of a struct that is an element, or of the element itself. -/
theorem lrow_cell (E : El P e size by_ c) {xs : List α} {g off cap i j : Nat} {x : α} {v : Value} (H : At w0 L w) (k : Nat) (hk : L[k]? = some (lrow e size c (.slice (some ⟨g, off, none⟩) xs.length cap) xs)) (hx : xs[i]? = some x) (hj : (c x)[j]? = some v) :
    w.cell? ⟨g, off + i * size + j, none⟩ = some v := by
  have h := lrow_at E H k hk hx
  exact h j v hj
end
attribute [irreducible] lrow
/-! ### Bytes read as a string -/
/-- The string of bytes. -/
def sb (l : List UInt8) : ByteArray := ⟨l.toArray⟩
section
variable {P : Program} {o : Oper} {ρ : Operand → Value} {w : World}
theorem exec_string_of {src dst e : TypeId} {x : Operand} (ho : o.op = .convert src dst x) (hs : P.underlying src = some (.slice e)) (he : P.underlying e = some (.int .u8)) (hd : P.underlying dst = some .string)
    {g off n cap : Nat} {l : List UInt8} (hx : ρ x = .slice (some ⟨g, off, none⟩) n cap) (hl : l.length = n) (hc : w.rangeAt g off (bl l)) : (execOp ρ o).run P w = .ok (.value (.string (sb l))) w := by
  subst hl
  have h := run_convert_bytes_back (P := P) w src dst e ⟨g, off, none⟩ cap l hs he hd (fun j hj => by
    rw [Addr.add_lit]
    exact hc j _ (by simp [bl, List.getElem?_eq_getElem hj]))
  unfold execOp
  simp only [ho, hx, Sem.run_bind, h, Result.andThen_ok, Sem.run_pure]
  rfl
end
end Go.Hg
