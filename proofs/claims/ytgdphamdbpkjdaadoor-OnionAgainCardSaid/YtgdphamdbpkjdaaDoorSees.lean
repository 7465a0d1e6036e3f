/-
  A slice of numbers that can be read, whosever it is, as a list. No program in sight.
-/
import Derived.Test.YtgdphamdbpkjdaaDoorBehind
import Derived.Test.YtgdphamdbpkjdaaDoorFrame
import Derived.Test.YtgdphamdbpkjdaaDoorNum
namespace Go.Hg
open Go.RowKit
set_option linter.unusedVariables false
/-- A number's cells. -/
def ic (k : IntKind) (x : Int) : List Value := [.int k x]
def gz (xs : List Int) (i : Nat) : Int := xs.getD i 0
theorem gz_get {xs : List Int} {i : Nat} (h : i < xs.length) : xs[i]? = some (gz xs i) := by simp [gz, List.getD, h]
theorem gz_of {xs : List Int} {i : Nat} {x : Int} (h : xs[i]? = some x) : gz xs i = x := by simp [gz, List.getD, h]
theorem gz_mem {xs : List Int} {i : Nat} (h : i < xs.length) : gz xs i ∈ xs := List.mem_of_getElem? (gz_get h)
theorem mem_gz {xs : List Int} {x : Int} (h : x ∈ xs) : ∃ i, i < xs.length ∧ gz xs i = x := by
  obtain ⟨i, hi⟩ := List.getElem?_of_mem h
  exact ⟨i, (List.getElem?_eq_some_iff.1 hi).1, gz_of hi⟩
theorem gz_map_range {v : Nat → Int} {m i : Nat} (h : i < m) : gz ((List.range m).map v) i = v i := gz_of (by simp [h])
/-- The value v is a slice of the numbers xs, as long as F is there. -/
def Sees (w0 : World) (F : List SP) (k : IntKind) (v : Value) (xs : List Int) : Prop :=
  ∃ a cap b off, v = .slice a xs.length cap ∧ xs.length ≤ cap ∧ (0 < xs.length → a = some ⟨b, off, none⟩) ∧ ∀ w', At w0 F w' → ∀ i, i < xs.length → w'.cell? ⟨b, off + i, none⟩ = some (.int k (gz xs i))
section
variable {w0 w : World} {F : List SP} {k : IntKind} {v : Value} {xs : List Int} {P : Program} {e : TypeId} {by_ : Nat}
theorem Sees.more (h : Sees w0 F k v xs) (X : SP) : Sees w0 (X :: F) k v xs := by
  obtain ⟨a, cap, b, off, h1, h2, h3, h4⟩ := h
  exact ⟨a, cap, b, off, h1, h2, h3, fun w' H i hi => h4 w' H.tail i hi⟩
theorem sees_arg {a : Option Addr} {b off len cap m : Nat} {f : Nat → Int} (hm : m ≤ len) (hc : len ≤ cap) (h : ∀ i : Nat, i < len → a = some ⟨b, off, none⟩ ∧ w0.cell? ⟨b, off + i, none⟩ = some (.int k (f i)) ∧ (Lit.int k (f i)).wf = true) :
    Sees w0 F k (.slice a m cap) ((List.range m).map f) := by
  have hl : ((List.range m).map f).length = m := by simp
  refine ⟨a, cap, b, off, by rw [hl], by omega, fun h0 => (h 0 (by omega)).1, fun w' H i hi => ?_⟩
  rw [hl] at hi
  have h2 := (h i (by omega)).2.1
  rw [gz_map_range hi]
  exact (H.below.cell (World.block_lt_of_cell? w0 _ h2)).trans h2
theorem sees_own (E : El P e 1 by_ (ic k)) (H : At w0 F w) (q : Nat) {a : Option Addr} {cap : Nat} (hk : F[q]? = some (lrow e 1 (ic k) (.slice a xs.length cap) xs)) : Sees w0 F k (.slice a xs.length cap) xs := by
  by_cases h0 : 0 < xs.length
  · obtain ⟨g, off, rfl⟩ := lrow_place H q hk h0
    have hc : xs.length ≤ cap := by
      have h := H.pull q hk
      unfold lrow at h
      obtain ⟨_, _, h, _⟩ := At.rows_blk h
      exact h
    refine ⟨_, cap, g, off, rfl, hc, fun _ => rfl, fun w' H' i hi => ?_⟩
    have := lrow_cell E (j := 0) H' q hk (gz_get hi) rfl
    simpa using this
  · have hx : xs = [] := List.eq_nil_of_length_eq_zero (by omega)
    subst hx
    exact ⟨a, cap, 0, 0, rfl, Nat.zero_le _, fun h => absurd h (by simp), fun w' _ i hi => absurd hi (by simp)⟩
theorem cl_ic (xs : List Int) : cl (ic k) xs = xs.map (Value.int k) := by
  induction xs with
  | nil => rfl
  | cons x xs ih => show ic k x ++ cl (ic k) xs = _; rw [ih]; rfl
theorem sees_src (H : At w0 F w) (h : Sees w0 F k v xs) : Src P 1 w v xs.length (cl (ic k) xs) := by
  obtain ⟨a, cap, b, off, rfl, h2, h3, h4⟩ := h
  by_cases h0 : 0 < xs.length
  · rw [h3 h0]
    refine Src.some (by rw [cl_ic]; simp) (fun j u hj => ?_) (fun u hu => by rw [cl_ic] at hu; simp at hu; obtain ⟨x, _, rfl⟩ := hu; rfl)
    rw [cl_ic] at hj
    have hlt := (List.getElem?_eq_some_iff.1 hj).1
    rw [List.length_map] at hlt
    rw [Addr.add_lit, h4 w H j hlt]
    rw [List.getElem?_map, gz_get hlt] at hj
    exact hj
  · have hx : xs = [] := List.eq_nil_of_length_eq_zero (by omega)
    subst hx
    cases a with
    | none =>
      refine ⟨fun wx => by simp [Builtin.lenOf], by simp [cl], fun wx _ => by simp [Builtin.firstCells, cl], by simp [cl]⟩
    | some a => exact lrow_src_zero a cap
/-- A part at the beginning. -/
theorem Sees.take (h : Sees w0 F k v xs) : ∃ a cap, v = .slice a xs.length cap ∧ xs.length ≤ cap ∧ ∀ m, m ≤ xs.length → Sees w0 F k (.slice a m cap) (xs.take m) := by
  obtain ⟨a, cap, b, off, h1, h2, h3, h4⟩ := h
  refine ⟨a, cap, h1, h2, fun m hm => ?_⟩
  have hl : (xs.take m).length = m := by rw [List.length_take]; omega
  refine ⟨a, cap, b, off, by rw [hl], by omega, fun h0 => h3 (by omega), fun w' H i hi => ?_⟩
  rw [hl] at hi
  have e : gz (xs.take m) i = gz xs i := by simp only [gz, List.getD_eq_getElem?_getD, List.getElem?_take, if_pos hi]
  rw [e]
  exact h4 w' H i (by omega)
end
/-- Rising, each once. -/
def risesB (xs : List Int) : Bool := decide (∀ i, i < xs.length → 0 < i → gz xs (i - 1) < gz xs i)
theorem risesB_false {xs : List Int} {i : Nat} (hi : i < xs.length) (h0 : 0 < i) (h : ¬ gz xs (i - 1) < gz xs i) : risesB xs = false := decide_eq_false fun H => h (H i hi h0)
theorem risesB_true {xs : List Int} (h : ∀ i, i < xs.length → 0 < i → gz xs (i - 1) < gz xs i) : risesB xs = true := decide_eq_true h
theorem rises_lt {xs : List Int} (h : risesB xs = true) : ∀ j i, i < j → j < xs.length → gz xs i < gz xs j := by
  have H := of_decide_eq_true h
  intro j
  induction j with
  | zero => intro i hi; omega
  | succ j ih =>
    intro i hi hj
    have h1 := H (j + 1) hj (by omega)
    simp only [Nat.add_sub_cancel] at h1
    by_cases e : i = j
    · subst e; exact h1
    · have := ih i (by omega) (by omega); omega
theorem rises_nodup {xs : List Int} (h : risesB xs = true) : xs.Nodup := by
  unfold List.Nodup
  rw [List.pairwise_iff_getElem]
  intro i j hi hj hij
  have h1 := rises_lt h j i hij hj
  have e1 : gz xs i = xs[i] := gz_of (List.getElem?_eq_getElem hi)
  have e2 : gz xs j = xs[j] := gz_of (List.getElem?_eq_getElem hj)
  intro e
  rw [e1, e2] at h1
  omega
end Go.Hg
