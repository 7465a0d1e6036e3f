/-
  A slice of whatever elements that can be read, whosever it is, as a list: as long as what is owned stays. No program in sight.
-/
import Derived.Test.YtgdphamdbpkjdaaDoorHmacS
import Derived.Test.YtgdphamdbpkjdaaDoorStV
namespace Go.Hg
open Go.RowKit
set_option linter.unusedVariables false
/-- The value v is a slice that holds xs, as long as F is there. -/
def SeeL {α : Type} (size : Nat) (c : α → List Value) (w0 : World) (F : List SP) (v : Value) (xs : List α) : Prop :=
  ∃ a cap b off, v = .slice a xs.length cap ∧ xs.length ≤ cap ∧ (0 < xs.length → a = some ⟨b, off, none⟩) ∧ ((a = none → cap = 0) ∧ ∀ x, a = some x → x = ⟨b, off, none⟩) ∧ ∀ w', At w0 F w' → w'.rangeAt b off (cl c xs)
/-- Bytes that can be read. -/
abbrev SeeB := SeeL 1 c8
section
variable {α : Type} {size by_ : Nat} {c : α → List Value} {w0 w : World} {F G : List SP} {v : Value} {xs ys : List α} {P : Program} {e t : TypeId}
theorem SeeL.mono (h : SeeL size c w0 F v xs) (f : ∀ h, seps G h → seps F h) : SeeL size c w0 G v xs := by
  obtain ⟨a, cap, b, off, h1, h2, h3, h5, h4⟩ := h
  exact ⟨a, cap, b, off, h1, h2, h3, h5, fun w' H => h4 w' (H.imp f)⟩
theorem SeeL.more (h : SeeL size c w0 F v xs) (X : SP) : SeeL size c w0 (X :: F) v xs := h.mono fun _ s => sep_tail s
theorem SeeL.weak (h : SeeL size c w0 F v xs) (s : F.Sublist G) : SeeL size c w0 G v xs := h.mono (seps_pick G F s)
theorem SeeL.perm (h : SeeL size c w0 F v xs) (p : G.Perm F) : SeeL size c w0 G v xs := h.mono (seps_perm p)
theorem SeeL.slice (h : SeeL size c w0 F v xs) : ∃ a cap, v = .slice a xs.length cap ∧ xs.length ≤ cap ∧ (0 < xs.length → ∃ b off, a = some ⟨b, off, none⟩) := by
  obtain ⟨a, cap, b, off, h1, h2, h3, h5, h4⟩ := h
  exact ⟨a, cap, h1, h2, fun h0 => ⟨b, off, h3 h0⟩⟩
theorem SeeL.one (h : SeeL size c w0 F v xs) : v.oneCell' = true := by
  obtain ⟨a, cap, b, off, h1, _⟩ := h
  rw [h1]; rfl
/-- Its cells. -/
theorem SeeL.cells (H : At w0 F w) {a : Option Addr} {n cap : Nat} (h : SeeL size c w0 F (.slice a n cap) xs) : n = xs.length ∧ n ≤ cap ∧ (a = none → cap = 0) ∧ (0 < n → ∃ b off, a = some ⟨b, off, none⟩) ∧ ∀ b off, a = some ⟨b, off, none⟩ → w.rangeAt b off (cl c xs) := by
  obtain ⟨a', cap', b, off, h1, h2, h3, h5, h4⟩ := h
  cases h1
  refine ⟨rfl, h2, h5.1, fun h0 => ⟨b, off, h3 h0⟩, fun b' off' e => ?_⟩
  have := h5.2 _ e
  cases this
  exact h4 w H
/-- An element's cells. -/
theorem SeeL.elem (E : El P e size by_ c) (H : At w0 F w) {b off n cap i : Nat} {x : α} (h : SeeL size c w0 F (.slice (some ⟨b, off, none⟩) n cap) xs) (hx : xs[i]? = some x) : w.rangeAt b (off + i * size) (c x) := by
  obtain ⟨_, _, _, _, hr⟩ := h.cells H
  intro j u hj
  have hlt := (List.getElem?_eq_some_iff.1 hj).1
  rw [E.len] at hlt
  rw [← E.cl_elem hx] at hj
  unfold Hg.elem at hj
  rw [List.getElem?_take, if_pos hlt, List.getElem?_drop] at hj
  rw [Nat.add_assoc]
  exact hr _ _ rfl _ _ hj
theorem SeeL.cell (E : El P e size by_ c) (H : At w0 F w) {b off n cap i j : Nat} {x : α} {u : Value} (h : SeeL size c w0 F (.slice (some ⟨b, off, none⟩) n cap) xs) (hx : xs[i]? = some x) (hj : (c x)[j]? = some u) : w.cell? ⟨b, off + i * size + j, none⟩ = some u :=
  h.elem E H hx j u hj
/-- A slice that is owned. -/
theorem see_own (E : El P e size by_ c) (H : At w0 F w) (q : Nat) {a : Option Addr} {n cap : Nat} (hn : n = xs.length) (hk : F[q]? = some (lrow e size c (.slice a n cap) xs)) : SeeL size c w0 F (.slice a n cap) xs := by
  subst hn
  have h := H.pull q hk
  unfold lrow at h
  rcases At.rows_value h with ⟨h1, h2, h3⟩ | ⟨g, off, cap', h1, h2, h3, _⟩
  · have hx : xs = [] := List.eq_nil_of_length_eq_zero h2
    subst hx
    cases h1
    exact ⟨none, 0, 0, 0, rfl, Nat.le_refl _, fun h => absurd h (by simp), ⟨(fun _ => rfl), (fun x e => by cases e)⟩, fun w' _ j u hj => by simp [cl] at hj⟩
  · cases h1
    refine ⟨some ⟨g, off, none⟩, cap, g, off, rfl, h2, fun _ => rfl, ⟨(fun e => by cases e), (fun x e => by cases e; rfl)⟩, fun w' H' j u hj => ?_⟩
    have h' := H'.pull q hk
    unfold lrow at h'
    rcases At.rows_value h' with ⟨h1, _⟩ | ⟨g', off', cap', h1, _, _, h4⟩
    · cases h1
    · cases h1
      have hlt := (List.getElem?_eq_some_iff.1 hj).1
      rw [E.cl_length] at hlt
      rw [h4 j hlt]
      exact hj
/-- A part of a block that is owned. -/
theorem see_raw (q : Nat) {b off cap : Nat} {cs : List Value} {t : TypeId} (hk : F[q]? = some (raw b cs.toArray t)) (hcap : xs.length ≤ cap) (hc : (cs.drop off).take (cl c xs).length = cl c xs) : SeeL size c w0 F (.slice (some ⟨b, off, none⟩) xs.length cap) xs := by
  refine ⟨_, cap, b, off, rfl, hcap, fun _ => rfl, ⟨(fun e => by cases e), (fun x e => by cases e; rfl)⟩, fun w' H j u hj => ?_⟩
  rw [raw_cell (H.heap q hk), List.getElem?_toArray]
  rw [← hc, List.getElem?_take] at hj
  split at hj
  · rwa [List.getElem?_drop] at hj
  · cases hj
/-- What append, copy take from. -/
theorem SeeL.src (E : El P e size by_ c) (H : At w0 F w) (h : SeeL size c w0 F v xs) : Src P size w v xs.length (cl c xs) := by
  obtain ⟨a, cap, b, off, rfl, h2, h3, h5, h4⟩ := h
  by_cases h0 : 0 < xs.length
  · rw [h3 h0]
    refine Src.some (E.cl_length xs) (fun j u hj => ?_) (E.one_cl xs)
    rw [Addr.add_lit]
    exact h4 w H j u hj
  · have hx : xs = [] := List.eq_nil_of_length_eq_zero (by omega)
    subst hx
    cases a with
    | none => exact ⟨fun wx => by simp [Builtin.lenOf], by simp [cl], fun wx _ => by simp [Builtin.firstCells, cl], by simp [cl]⟩
    | some a => exact lrow_src_zero a cap
/-- A part of it. -/
theorem SeeL.part (E : El P e size by_ c) (ht : P.underlying t = some (.slice e)) {a : Option Addr} {n cap : Nat} (h : SeeL size c w0 F (.slice a n cap) xs) {l q : Nat} (hl : l ≤ q) (hq : q ≤ xs.length) : SeeL size c w0 F (sliced a l q cap size) ((xs.take q).drop l) := by
  obtain ⟨a', cap', b, off, h1, h2, h3, h5, h4⟩ := h
  cases h1
  have hlen : ((xs.take q).drop l).length = q - l := by rw [List.length_drop, List.length_take]; omega
  have hz : q - l = 0 → (xs.take q).drop l = [] := fun e => List.eq_nil_of_length_eq_zero (by omega)
  unfold sliced
  by_cases hc : cap = l
  · have : q = l := by omega
    subst this
    rw [if_pos hc, hz (by omega)]
    exact ⟨a, cap - q, b, off, by simp, by simp, fun h => absurd h (by simp), ⟨(fun e => by have := h5.1 e; omega), h5.2⟩, fun w' _ j u hj => by simp [cl] at hj⟩
  · rw [if_neg hc, ← hlen]
    refine ⟨_, _, b, off + l * size, rfl, by rw [hlen]; omega, fun h0 => ?_, ⟨fun e => ?_, fun x e => ?_⟩, fun w' H j u hj => ?_⟩
    · rw [h3 (by omega)]; show some (Addr.add _ _) = _; rw [Addr.add_lit]
    · have : a = none := by cases a <;> simp_all
      have := h5.1 this
      omega
    · cases a with
      | none => cases e
      | some y => have := h5.2 y rfl; subst this; cases e; exact Addr.add_lit _ _ _
    · have hr := h4 w' H
      have e2 : cl c ((xs.take q).drop l) = ((cl c xs).take (q * size)).drop (l * size) := by rw [E.cl_take, E.cl_drop]
      rw [e2, List.getElem?_drop, List.getElem?_take] at hj
      split at hj
      · rw [Nat.add_assoc]; exact hr _ _ hj
      · cases hj
/-- From a place on. -/
theorem SeeL.from_ (E : El P e size by_ c) (ht : P.underlying t = some (.slice (P.elem t))) (he : P.elem t = e) (h : SeeL size c w0 F v xs) {k : Nat} (hk : k ≤ xs.length) :
    ∃ v', SeeL size c w0 F v' (xs.drop k) ∧ ∀ w, (Instr.sliceAt t v (some (.int .i64 (k : Int))) none none).run P w = .ok v' w := by
  obtain ⟨a, cap, h1, h2, _⟩ := h.slice
  subst h1
  obtain ⟨z, hi, hzs⟩ := E.info
  obtain ⟨i, hi, hz, hsz, hby⟩ := info_of hi
  refine ⟨sliced a k xs.length cap size, ?_, fun w => ?_⟩
  · have := h.part E (by rw [ht, he]) (l := k) (q := xs.length) hk (Nat.le_refl _)
    rwa [List.take_length] at this
  · rw [run_sliceAt_slice w t _ _ _ _ ht, run_slice_l w t a xs.length cap ht .i64 (k : Int) (by omega) (by omega), he]
    simp [sizeOf, typeInfo, hi, hsz]
/-- Up to a place. -/
theorem SeeL.upto (E : El P e size by_ c) (ht : P.underlying t = some (.slice (P.elem t))) (he : P.elem t = e) (h : SeeL size c w0 F v xs) {k : Nat} (hk : k ≤ xs.length) :
    ∃ v', SeeL size c w0 F v' (xs.take k) ∧ ∀ w, (Instr.sliceAt t v none (some (.int .i64 (k : Int))) none).run P w = .ok v' w := by
  obtain ⟨a, cap, h1, h2, _⟩ := h.slice
  subst h1
  obtain ⟨z, hi, hzs⟩ := E.info
  obtain ⟨i, hi, hz, hsz, hby⟩ := info_of hi
  refine ⟨sliced a 0 k cap size, ?_, fun w => ?_⟩
  · have := h.part E (by rw [ht, he]) (l := 0) (q := k) (Nat.zero_le _) hk
    rwa [List.drop_zero] at this
  · rw [run_sliceAt_slice w t _ _ _ _ ht, run_slice_h w t a xs.length cap ht .i64 (k : Int) (by omega) (by omega), he]
    simp [sizeOf, typeInfo, hi, hsz]
/-- Between places. -/
theorem SeeL.within (E : El P e size by_ c) (ht : P.underlying t = some (.slice (P.elem t))) (he : P.elem t = e) (h : SeeL size c w0 F v xs) {l k : Nat} (hl : l ≤ k) (hk : k ≤ xs.length) :
    ∃ v', SeeL size c w0 F v' ((xs.take k).drop l) ∧ ∀ w, (Instr.sliceAt t v (some (.int .i64 (l : Int))) (some (.int .i64 (k : Int))) none).run P w = .ok v' w := by
  obtain ⟨a, cap, h1, h2, _⟩ := h.slice
  subst h1
  obtain ⟨z, hi, hzs⟩ := E.info
  obtain ⟨i, hi, hz, hsz, hby⟩ := info_of hi
  refine ⟨sliced a l k cap size, h.part E (by rw [ht, he]) hl hk, fun w => ?_⟩
  rw [run_sliceAt_slice w t _ _ _ _ ht, run_slice_lh w t a xs.length cap ht .i64 .i64 (l : Int) (k : Int) (by omega) (by omega) (by omega), he]
  simp [sizeOf, typeInfo, hi, hsz]
end
section
variable {P : Program} {o : Oper} {a : Act} {w w0 : World} {L : List SP} {K : Act → World → Prop} {Q : Exit → Act → World → Prop}
/-- A slice is cut. -/
theorem wp_slice (t : TypeId) (x : Operand) (lo hi mx : Option Operand) (ho : o.op = .slice t x lo hi mx) {v : Value} (hr : (Instr.sliceAt t (a.eval x) (lo.map a.eval) (hi.map a.eval) (mx.map a.eval)).run P w = .ok v w) (h : K (a.put o.dst v) w) : OWp P o a w K Q := by
  refine wp_run (v := v) (w' := w) ?_ h
  unfold execOp
  simp only [ho, Sem.run_bind, hr, Result.andThen_ok, Sem.run_pure]
theorem yl_slice {ops : Array Oper} {S : World → Prop} (hw : Region.wanted o (yielded ops a.tmps) = true) (t : TypeId) (x : Operand) (lo hi mx : Option Operand) (ho : o.op = .slice t x lo hi mx) {v : Value} (hr : ∀ w, (Instr.sliceAt t (a.eval x) (lo.map a.eval) (hi.map a.eval) (mx.map a.eval)).run P w = .ok v w) : YieldsIf P ops S o v a :=
  yl hw fun w _ => by
    unfold execOp
    simp only [ho, Sem.run_bind, hr, Result.andThen_ok, Sem.run_pure]
variable {α : Type} {e : TypeId} {size by_ : Nat} {c : α → List Value}
theorem cl_replicate {α : Type} {c : α → List Value} {x : α} {u : Value} (h : c x = [u]) : ∀ n, cl c (List.replicate n x) = List.replicate n u
  | 0 => rfl
  | n + 1 => by
    rw [List.replicate_succ, List.replicate_succ, ← cl_replicate h n]
    show c x ++ _ = _
    rw [h]
    rfl
/-- A new slice of noughts. -/
theorem wp_lmake (E : El P e size by_ c) (t : TypeId) (l cp : Operand) (ho : o.op = .makeSlice t l cp) (ht : P.underlying t = some (.slice e)) {z : Value} (hinfo : (P.info? e).map (fun i => (i.zero, i.size, i.bytes)) = some (some z, size, by_)) (x : α) (hz : z.cells = (c x).toArray) (h1 : size = 1)
    {n cap : Nat} (hl : a.eval l = .int .i64 (n : Int)) (hcp : a.eval cp = .int .i64 (cap : Int)) (hn : n ≤ cap) (hcap : cap ≤ maxLen) (hb : by_ * cap ≤ 281474976710656) (H : At w0 L w)
    (h : ∀ b w', At w0 (lrow e size c (.slice (some ⟨b, 0, none⟩) n cap) (List.replicate n x) :: L) w' → K (a.put o.dst (.slice (some ⟨b, 0, none⟩) n cap)) w') : OWp P o a w K Q := by
  subst h1
  obtain ⟨i, hi, hzz, hsz, hby⟩ := info_of hinfo
  have hc63 : (cap : Int) ≤ 9223372036854775807 := by simp only [maxLen] at hcap; omega
  have hb' : (i.bytes : Int) * (cap : Int) ≤ 281474976710656 := by
    have h : ((i.bytes * cap : Nat) : Int) ≤ 281474976710656 := by rw [hby]; omega
    rwa [Int.natCast_mul] at h
  have hr := run_make (P := P) w t e i z ht hi hzz .i64 .i64 n cap (by omega) (by omega) hb' hc63
  simp only [Int.toNat_natCast, hsz, Nat.mul_one] at hr
  have hlx := E.len x
  obtain ⟨u, hu⟩ : ∃ u, c x = [u] := by
    match hcx : c x, hlx with
    | [u], _ => exact ⟨u, rfl⟩
  have hmc : (madeCells z.cells cap).toList = List.replicate cap u := by
    apply List.ext_getElem?
    intro j
    rw [Array.getElem?_toList, hz, hu]
    unfold madeCells
    by_cases hj : j < cap
    · simp [hj, Nat.mod_one]
    · simp [hj]
  refine wp_run (v := .slice (some ⟨w.heap.size, 0, none⟩) n cap) (w' := w.alloc (.cells (madeCells z.cells cap) e)) ?_ (h _ _ ?_)
  · unfold execOp
    simp only [ho, hl, hcp, Sem.run_bind, hr, Result.andThen_ok, Sem.run_pure]
  · have H2 := At.rows_new (H.alloc (.cells (madeCells z.cells cap) e)) (n := n) (cap := cap) (size := 1) (xs := List.replicate n u) hn hcap (by rw [size_madeCells]; omega) (by rw [hmc, Nat.mul_one, List.take_replicate]; congr 1; omega)
    unfold lrow
    rw [List.length_replicate]
    rw [cl_replicate hu]
    exact H2
end
end Go.Hg
