/-
  Slices that grow into a new block: append onto an array's slice, append of noughts; a copy into an owned slice. No program in sight.
-/
import Derived.Test.YtgdphamdbpkjdaaDoorBlk
import Derived.Lib.AppendZerosOnto
namespace Go.Hg
open Go.RowKit
set_option linter.unusedVariables false
section
variable {P : Program} {o : Oper} {a : Act} {w w0 : World} {L : List SP} {K : Act → World → Prop} {Q : Exit → Act → World → Prop}
variable {α : Type} {e : TypeId} {size by_ : Nat} {c : α → List Value}
theorem cl_len1 (h : ∀ x, (c x).length = 1) (xs : List α) : (cl c xs).length = xs.length := by
  induction xs with
  | nil => rfl
  | cons x xs ih =>
    show (c x ++ cl c xs).length = _
    rw [List.length_append, ih, h, List.length_cons, Nat.add_comm]
/-- What lies behind a slice is appended to one that has no room. -/
theorem wp_lapp_new (E : El P e size by_ c) (t t2 : TypeId) (ht : P.underlying t = some (.slice e)) (ht2 : SrcType P t2) (s xo : Operand) (ho : o.op = .call { callee := .builtin .append, args := #[s, xo], argTypes := #[t, t2] }) {n m : Nat} {xs ys : List α} {a0 : Option Addr} (hn : n = xs.length) (hm : m = ys.length) (hs : a.eval s = .slice a0 n n)
    (hv : SeeL size c w0 L (.slice a0 n n) xs) (H : At w0 L w) {x : Value} (hxo : a.eval xo = x) (hx : Src P size w x ys.length (cl c ys)) (h0 : 0 < m) (h63 : n + m ≤ maxLen) (hb : (n + m) * by_ ≤ 140737488355328)
    (h : ∀ b q w', At w0 (lrow e size c (.slice (some ⟨b, 0, none⟩) (n + m) q) (xs ++ ys) :: L) w' → K (a.put o.dst (.slice (some ⟨b, 0, none⟩) (n + m) q)) w') : OWp P o a w K Q := by
  subst hn hm
  obtain ⟨z, hinfo, hzs⟩ := E.info
  obtain ⟨i, hi, hz, hsz, hby⟩ := info_of hinfo
  subst hsz
  subst hby
  clear hinfo
  have hsmall : xs.length + ys.length ≤ 9223372036854775807 := by simp only [maxLen] at h63; omega
  have hold : ∀ wx : World, wx.heap = w.heap → (Builtin.firstCells i.size xs.length (.slice a0 xs.length xs.length)).run P wx = .ok (cl c xs).toArray wx := fun wx hw => by
    obtain ⟨a', cap', b, off, h1, h2, h3, h5, h4⟩ := hv
    cases h1
    cases a0 with
    | none =>
      have hx0 : xs = [] := List.eq_nil_of_length_eq_zero (h5.1 rfl)
      subst hx0
      simp [Builtin.firstCells, cl]
    | some y =>
      have := h5.2 y rfl
      subst this
      exact run_firstCells_some wx i.size xs.length ⟨b, off, none⟩ xs.length xs.length (cl c xs) (E.cl_length xs) (fun j u hj => by
        have := h4 w H j u hj
        rw [Addr.add_lit]
        simpa [World.cell?, hw] using this)
  have hr := append_grow (P := P) (w := w) t t2 o.type e i z ht ht2 hi hz hx (sLen := xs.length) (sCap := xs.length) (base := a0) (by omega) hsmall (growslice_fits (by omega) hb) hold
  have hge := grownCap_ge w (xs.length + ys.length) xs.length e
  have hcm : grownCap w (xs.length + ys.length) xs.length e ≤ maxLen := grownCap_le_maxLen w _ _ e h63
  have hxl := E.cl_length xs
  have hyl := E.cl_length ys
  have H2 := (H.drew.alloc (.cells ((cl c xs).toArray ++ (cl c ys).toArray ++ Builtin.zeroCells z.cells (grownCap w (xs.length + ys.length) xs.length e - (xs.length + ys.length))) e))
  have H3 := At.rows_new (b := w.heap.size) (n := (xs ++ ys).length) (size := i.size) (xs := cl c (xs ++ ys)) H2 (by rw [List.length_append]; exact hge) hcm (by
      simp only [Array.size_append, List.size_toArray, size_zeroCells, hzs, hxl, hyl, ← Nat.add_mul]
      exact Nat.le_of_eq (by congr 1; omega)) (by
      simp only [Array.toList_append, List.append_assoc]
      rw [← List.append_assoc, ← cl_append, ← E.cl_length]
      exact List.take_left)
  refine owp ?_
  unfold Oper.wp execOp
  simp only [ho, resolve, invoke, BigFrame.builtin_append, Sem.run_bind, Sem.run_pure, Result.andThen_ok, List.map_toArray, List.map_cons, List.map_nil, hs, hxo, hr]
  exact h _ _ _ (by unfold lrow; rw [List.length_append] at H3 ⊢; exact H3)
/-- So many noughts are appended to a slice that has no room. -/
theorem wp_lzeros (E : El P e size by_ c) (t tn : TypeId) (ht : P.underlying t = some (.slice e)) {kn : IntKind} (htn : P.underlying tn = some (.int kn)) (s xo : Operand) (ho : o.op = .call { callee := .builtin .append, args := #[s, xo], argTypes := #[t, tn] }) {z : Value} (hinfo : (P.info? e).map (fun i => (i.zero, i.size, i.bytes)) = some (some z, size, by_)) (x : α) (hz1 : z.cells = (c x).toArray) (h1 : size = 1) {n : Nat} {xs : List α} {a0 : Option Addr} (hn : n = xs.length) (hs : a.eval s = .slice a0 n n)
    (hv : SeeL size c w0 L (.slice a0 n n) xs) (H : At w0 L w) {kq : IntKind} {k : Nat} (hxo : a.eval xo = .int kq (k : Int)) (h0 : 0 < k) (h63 : n + k ≤ maxLen) (hb : (n + k) * by_ ≤ 140737488355328)
    (h : ∀ b q w', At w0 (lrow e size c (.slice (some ⟨b, 0, none⟩) (n + k) q) (xs ++ List.replicate k x) :: L) w' → K (a.put o.dst (.slice (some ⟨b, 0, none⟩) (n + k) q)) w') : OWp P o a w K Q := by
  subst hn
  subst h1
  obtain ⟨i, hi, hz, hsz, hby⟩ := info_of hinfo
  subst hby
  have hsmall : ((xs.length + k : Nat) : Int) ≤ 9223372036854775807 := by simp only [maxLen] at h63; omega
  have hsrc := hv.src E H
  have hold : (Builtin.firstCells i.size xs.length (.slice a0 xs.length xs.length)).run P w.drew = .ok (cl c xs).toArray w.drew := by
    rw [hsz]
    exact hsrc.cells w.drew (Below.refl _ w).drew
  have hkb : k * i.bytes ≤ (xs.length + k) * i.bytes := Nat.mul_le_mul_right _ (by omega)
  have hr := Lib.run_append_grow_zeros (P := P) w t tn o.type e i z kq kn ht htn hi hz a0 xs.length xs.length (cl c xs) hold k h0 (by omega) (by omega) hsmall (by omega) (growslice_fits (by omega) hb)
  have hge := grownCap_ge w (xs.length + k) xs.length e
  have hcm : grownCap w (xs.length + k) xs.length e ≤ maxLen := grownCap_le_maxLen w _ _ e h63
  have hxl := E.cl_length xs
  obtain ⟨u, hu⟩ : ∃ u, c x = [u] := by
    match hcx : c x, E.len x with
    | [u], _ => exact ⟨u, rfl⟩
  have hzc : ∀ n, (Builtin.zeroCells z.cells n).toList = List.replicate n u := fun n => by
    rw [hz1, hu]
    unfold Builtin.zeroCells
    apply List.ext_getElem?
    intro j
    rw [Array.getElem?_toList]
    by_cases hj : j < n
    · simp [hj, Nat.mod_one]
    · simp [hj]
  have hcr : cl c (List.replicate k x) = List.replicate k u := cl_replicate hu k
  have H2 := (H.drew.alloc (.cells ((cl c xs).toArray ++ Builtin.zeroCells z.cells k ++ Builtin.zeroCells z.cells (grownCap w (xs.length + k) xs.length e - (xs.length + k))) e))
  have hll : (xs ++ List.replicate k x).length = xs.length + k := by simp
  have H3 := At.rows_new (b := w.heap.size) (n := xs.length + k) (size := 1) (xs := cl c (xs ++ List.replicate k x)) H2 hge hcm (by
      simp only [Array.size_append, List.size_toArray, size_zeroCells, hz1, hu, hxl, List.length_singleton]
      omega) (by
      simp only [Array.toList_append, List.append_assoc, hzc]
      rw [← List.append_assoc, cl_append, hcr]
      refine List.take_left' ?_
      rw [List.length_append, hxl, List.length_replicate]
      omega)
  refine owp ?_
  unfold Oper.wp execOp
  simp only [ho, resolve, invoke, BigFrame.builtin_append, Sem.run_bind, Sem.run_pure, Result.andThen_ok, List.map_toArray, List.map_cons, List.map_nil, hs, hxo, hr]
  exact h w.heap.size (grownCap w (xs.length + k) xs.length e) _ (by unfold lrow; rw [hll]; exact H3)
/-- Onto the end of an owned slice is copied. -/
theorem wp_lcopy (E : El P e 1 by_ c) (d s : Operand) (dT sT : TypeId) (ho : o.op = .call { callee := .builtin .copy, args := #[d, s], argTypes := #[dT, sT] }) (hu : P.underlying dT = some (.slice e)) {g off cap i n : Nat} {xs ys : List α} {sv : Value} (hn : n = xs.length) (hd : a.eval d = sliced (some ⟨g, off, none⟩) i n cap 1) (hs : a.eval s = sv)
    (H : At w0 (lrow e 1 c (.slice (some ⟨g, off, none⟩) n cap) xs :: L) w) (hsv : SeeL 1 c w0 L sv ys) (hi : i + ys.length = n)
    (h : ∀ w', At w0 (lrow e 1 c (.slice (some ⟨g, off, none⟩) n cap) (xs.take i ++ ys) :: L) w' → K (a.put o.dst (goInt ys.length)) w') : OWp P o a w K Q := by
  subst hn
  obtain ⟨z, hinf, hzs⟩ := E.info
  obtain ⟨inf, hinf, hz, hsz, hby⟩ := info_of hinf
  have hsz1 : (P.info? e).map (·.size) = some 1 := by rw [hinf]; simp [hsz]
  by_cases h0 : 0 < ys.length
  · have hsrc : ∀ sa sl sc, sv = .slice (some sa) sl sc → sl = ys.length ∧ ∀ j u, (cl c ys)[j]? = some u → w.cell? (sa.add j) = some u := fun sa sl sc e0 => by
      subst e0
      obtain ⟨e1, _, _, e4, e5⟩ := hsv.cells H.tail
      obtain ⟨b, o2, e6⟩ := e4 (by omega)
      cases e6
      exact ⟨e1, fun j u hj => by rw [Addr.add_lit]; exact e5 b o2 rfl j u hj⟩
    obtain ⟨sa0, scap, rfl, _, hsome⟩ := hsv.slice
    obtain ⟨b, o2, rfl⟩ := hsome h0
    obtain ⟨_, hcells⟩ := hsrc _ _ _ rfl
    unfold lrow at H h
    obtain ⟨cur, hb, hnc, hm, hss, htk⟩ := At.rows_blk H
    have hcy := E.cl_length ys
    have hcx := E.cl_length xs
    have he1 : (cl c xs).take i = cl c (xs.take i) := by have := E.cl_take xs i; simpa using this
    have hgo : goInt ((cl c ys).length : Int) = goInt (ys.length : Int) := by rw [hcy, Nat.mul_one]
    have hne : cap ≠ i := by omega
    have hd2 : a.eval d = .slice (some ⟨g, off + i, none⟩) (xs.length - i) (cap - i) := by
      rw [hd]
      unfold sliced
      rw [if_neg hne]
      show Value.slice (some (Addr.add _ _)) _ _ = _
      rw [Addr.add_lit, Nat.mul_one]
    have hr := run_copy_row (P := P) w dT sT o.type e g (off + i) (xs.length - i) (cap - i) ⟨b, o2, none⟩ ys.length scap cur e (cl c ys) hu hsz1 hb (by rw [hcy]; show _ = min _ _; omega) hcells (by omega) (E.one_cl ys)
    have H2 := At.rows_upd H (n' := xs.length) (cur' := (cur.toList.take (off + i) ++ cl c ys ++ cur.toList.drop (off + i + (cl c ys).length)).toArray) (xs' := cl c (xs.take i ++ ys)) hb hnc hm
      (by simp only [List.size_toArray, List.length_append, List.length_take, List.length_drop, Array.length_toList]; omega)
      (by rw [E.cl_length, List.length_append, List.length_take]; omega) (by
        show List.take (xs.length * 1) (List.drop off _) = _
        rw [splice_mid cur.toList (cl c ys) off i (xs.length * 1) (by omega) (by simp; omega), htk, cl_append, he1, List.drop_eq_nil_of_le (by omega), List.append_nil])
    have h3 := h _ (by
      have hl : (xs.take i ++ ys).length = xs.length := by rw [List.length_append, List.length_take]; omega
      rw [hl]
      exact H2)
    rw [← hgo] at h3
    refine owp ?_
    unfold Oper.wp execOp
    simp only [ho, resolve, invoke, BigFrame.builtin_copy, Sem.run_bind, Sem.run_pure, Result.andThen_ok, List.map_toArray, List.map_cons, List.map_nil, hd2, hs, hr]
    exact h3
  · have hy : ys = [] := List.eq_nil_of_length_eq_zero (by omega)
    subst hy
    have hi' : i = xs.length := by simpa using hi
    subst hi'
    obtain ⟨sa0, scap, rfl, _, hsome⟩ := hsv.slice
    have hd2 : ∃ da dc, a.eval d = .slice da 0 dc := ⟨_, _, by rw [hd]; unfold sliced; rw [Nat.sub_self]⟩
    obtain ⟨da, dc, hd2⟩ := hd2
    have hr := run_copy_none (P := P) w dT sT o.type e da sa0 0 dc 0 scap hu hsz1 rfl
    have h3 := h w (by simpa using H)
    refine owp ?_
    unfold Oper.wp execOp
    simp only [ho, resolve, invoke, BigFrame.builtin_copy, Sem.run_bind, Sem.run_pure, Result.andThen_ok, List.map_toArray, List.map_cons, List.map_nil, hd2, hs]
    simp only [List.length_nil, hr, Result.andThen_ok]
    exact h3
end
end Go.Hg
