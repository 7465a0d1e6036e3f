/-
  Slices of bodies: what is appended to them, read out of them. (The mail's program, for its type numbers.)
-/
import Derived.Test.YtogicnbocefkbaaLaw15
import Derived.Test.YtogicnbocefkbaaPair
namespace Go.Proofs.Ytogicnbocefkbaa
open Go.RowKit Go.Hg
set_option linter.unusedVariables false
theorem mod_range (a b : Int) (hb : 0 < b) : ∃ y, a % b = y ∧ 0 ≤ y ∧ y < b := ⟨_, rfl, Int.emod_nonneg _ (by omega), Int.emod_lt_of_pos _ hb⟩
theorem under_bytes : Try.prog.underlying 39 = some (.slice 5) := by kernel_rfl
theorem under_str : Try.prog.underlying 9 = some .string := by kernel_rfl
theorem info_byte : (Try.prog.info? 5).map (fun i => (i.zero, i.size, i.bytes)) = some (some (.int .u8 0), 1, 1) := by kernel_rfl
/-- The bodies of an owned slice, as what is appended. -/
theorem src_rows {w0 w : World} {L : List SP} (H : At w0 L w) (k : Nat) {x : Value} {ys : List Body} (hf : Full ys) (hk : L[k]? = some (rows 34 256 x ys.length (bls ys))) : Src Try.prog 256 w x ys.length (bls ys) := by
  rcases (H.pull k hk).rows_value with ⟨rfl, h0, h1⟩ | ⟨g, off, cap, rfl, _, _, hc⟩
  · rw [h0, h1]; exact Src.none
  · have hl := bls_length hf
    refine Src.some hl (fun j u hj => ?_) (one_bls ys)
    have hlt := (List.getElem?_eq_some_iff.1 hj).1
    rw [Addr.add_lit, hc j (by omega)]
    exact hj
section
variable {o : Oper} {a : Act} {w w0 : World} {L : List SP} {K : Act → World → Prop} {Q : Exit → Act → World → Prop}
theorem wp_app_src (s xo : Operand) (ho : o.op = .call { callee := .builtin .append, args := #[s, xo], argTypes := #[40, 40] }) {v : Value} (hs : a.eval s = v) {xs ys : List Body}
    (H : At w0 (rows 34 256 v xs.length (bls xs) :: L) w) {x : Value} (hxo : a.eval xo = x) (hx : Src Try.prog 256 w x ys.length (bls ys)) (hlen : xs.length + ys.length ≤ 1000000)
    (h : ∀ b c w', At w0 (rows 34 256 (.slice b (xs ++ ys).length c) (xs ++ ys).length (bls (xs ++ ys)) :: L) w' → K (a.put o.dst (.slice b (xs ++ ys).length c)) w') : OWp Try.prog o a w K Q := by
  obtain ⟨i, hi, hz, hsz, hby⟩ := info_of info_body
  refine owp (wp_append_sl (size := 256) (v := v) (n := xs.length) (xs := bls xs) (x := x) (m := ys.length) (news := bls ys) s xo _ _ ho i (.agg (bv zb)) 256 under_bodies (.inl ⟨_, under_bodies⟩) hi hz hsz hby (by show (bv zb).size = 256; rw [bv_size]; exact List.length_replicate) hs H hxo hx (by simp only [maxLen]; omega) (by omega) ?_)
  intro v' w' H2 _
  rw [← List.length_append, ← show bls (xs ++ ys) = bls xs ++ bls ys from List.flatMap_append] at H2
  obtain ⟨b, c, rfl⟩ := H2.rows_slice
  exact h b c w' H2
/-- All bodies of another owned slice are appended. -/
theorem wp_app_rows (s xo : Operand) (ho : o.op = .call { callee := .builtin .append, args := #[s, xo], argTypes := #[40, 40] }) {v : Value} (hs : a.eval s = v) {xs ys : List Body}
    (H : At w0 (rows 34 256 v xs.length (bls xs) :: L) w) {x : Value} (hxo : a.eval xo = x) (k : Nat) (hf : Full ys) (hk : L[k]? = some (rows 34 256 x ys.length (bls ys))) (hlen : xs.length + ys.length ≤ 1000000)
    (h : ∀ b c w', At w0 (rows 34 256 (.slice b (xs ++ ys).length c) (xs ++ ys).length (bls (xs ++ ys)) :: L) w' → K (a.put o.dst (.slice b (xs ++ ys).length c)) w') : OWp Try.prog o a w K Q :=
  wp_app_src s xo ho hs H hxo (src_rows H (k + 1) hf (by simpa using hk)) hlen h
/-- One body, in a slice that was built for it, is appended. -/
theorem wp_app_one (s xo : Operand) (ho : o.op = .call { callee := .builtin .append, args := #[s, xo], argTypes := #[40, 40] }) {v : Value} (hs : a.eval s = v) {xs : List Body} {y : Body}
    (H : At w0 (rows 34 256 v xs.length (bls xs) :: L) w) {C : Nat} (hxo : a.eval xo = .slice (some ⟨C, 0, none⟩) 1 1) (k : Nat) (hy : y.length = 256) (hk : L[k]? = some (raw C (bv y) 34)) (hlen : xs.length + 1 ≤ 1000000)
    (h : ∀ b c w', At w0 (rows 34 256 (.slice b (xs ++ [y]).length c) (xs ++ [y]).length (bls (xs ++ [y])) :: L) w' → K (a.put o.dst (.slice b (xs ++ [y]).length c)) w') : OWp Try.prog o a w K Q := by
  refine wp_app_src (ys := [y]) s xo ho hs H hxo ?_ hlen h
  have hc := H.heap (k + 1) (by simpa using hk)
  refine Src.some (by simp [bls, bl_length, hy]) (fun j u hj => ?_) (one_bls _)
  rw [Addr.add_lit, raw_cell hc]
  simpa [bls, bv] using hj
/-- A new slice with no room. -/
theorem wp_build0 (ho : o.op = .buildSlice 40 0 #[]) (H : At w0 L w)
    (h : ∀ b w', At w0 (rows 34 256 (.slice (some ⟨b, 0, none⟩) 0 0) ([] : List Body).length (bls []) :: L) w' → K (a.put o.dst (.slice (some ⟨b, 0, none⟩) 0 0)) w') : OWp Try.prog o a w K Q :=
  wp_buildSlice0_sl _ ho under_bodies info_body H fun b w' H2 _ => h _ w' (H2.rows_new (n := 0) (cap := 0) (xs := []) (Nat.le_refl _) (by simp [maxLen]) (by simp) (by simp))
end
/-- A body is read out of an owned slice. -/
theorem rows_at {w0 w : World} {L : List SP} {ys : List Body} {g off cap i : Nat} {x : Body} (H : At w0 L w) (k : Nat) (hk : L[k]? = some (rows 34 256 (.slice (some ⟨g, off, none⟩) ys.length cap) ys.length (bls ys))) (hf : Full ys) (hx : ys[i]? = some x) :
    w.rangeAt g (off + i * 256) (bl x) := by
  rw [← elem_bls hf hx]
  exact At.rows_elem (H.pull k hk) (List.getElem?_eq_some_iff.1 hx).1
/-- A slice that begins further on. -/
theorem wp_slice_from {o : Oper} {a : Act} {w w0 : World} {L : List SP} {K : Act → World → Prop} {Q : Exit → Act → World → Prop} (x lo : Operand) (ho : o.op = .slice 40 x (some lo) none none) {v : Value} (hx : a.eval x = v) {q : Nat} (hlo : a.eval lo = .int .i64 (q : Int))
    {ys : List Body} (H : At w0 L w) (k : Nat) (hf : Full ys) (hk : L[k]? = some (rows 34 256 v ys.length (bls ys))) (hq : q ≤ ys.length)
    (h : ∀ b c, Src Try.prog 256 w (.slice b (ys.drop q).length c) (ys.drop q).length (bls (ys.drop q)) → K (a.put o.dst (.slice b (ys.drop q).length c)) w) : OWp Try.prog o a w K Q := by
  have hd : (ys.drop q).length = ys.length - q := List.length_drop
  have hl := bls_length hf
  have hld := bls_length (hf.drop q)
  have hte : Try.prog.elem 40 = 34 := by kernel_rfl
  have ht : Try.prog.underlying 40 = some (.slice (Try.prog.elem 40)) := by rw [hte]; exact under_bodies
  have hsz : ∀ w, (sizeOf 34).run Try.prog w = .ok 256 w := fun w => by kernel_rfl
  have hrun : ∀ (b : Option Addr) (l c : Nat), q ≤ l → (execOp a.eval o).run Try.prog w = (Sem.run Try.prog (Instr.sliceAt 40 v (some (.int .i64 (q : Int))) none none) w).andThen (fun x w' => .ok (.value x) w') := fun b l c hl => by
    unfold execOp
    simp only [ho, hx, hlo, Option.map_some, Option.map_none, Sem.run_bind, Sem.run_pure]
  have hsl : ∀ (b : Option Addr) (l c : Nat), q ≤ l → (Instr.sliceAt 40 (.slice b l c) (some (.int .i64 (q : Int))) none none).run Try.prog w = .ok (.slice (if c = q then b else b.map (·.add (q * 256))) (l - q) (c - q)) w := fun b l c hl => by
    rw [run_sliceAt_slice (h := ht), run_slice_l (ht := ht) (h0 := by omega) (h1 := by omega), hte, hsz]
    simp [sliced]
  refine owp ?_
  unfold Oper.wp
  rw [hrun none ys.length 0 hq]
  rcases (H.pull k hk).rows_value with ⟨rfl, h0, h1⟩ | ⟨g, off, cap, rfl, hc1, _, hc⟩
  · have hy0 : ys.drop q = [] := List.eq_nil_of_length_eq_zero (by omega)
    obtain rfl : q = 0 := by omega
    rw [hsl none 0 0 (by omega)]
    have h2 := h none 0 (by rw [hy0]; exact Src.none)
    rw [hy0] at h2
    exact h2
  · rw [hsl _ _ _ hq]
    by_cases hcq : cap = q
    · have hy0 : ys.drop q = [] := List.eq_nil_of_length_eq_zero (by omega)
      have h2 := h (some ⟨g, off, none⟩) 0 (by rw [hy0]; exact Src.some (by simp [bls]) (fun j u hj => by simp [bls] at hj) (one_bls _))
      rw [hd] at h2
      rw [if_pos hcq, hcq, Nat.sub_self]
      exact h2
    · have h2 := h (some ⟨g, off + q * 256, none⟩) (cap - q) (Src.some (by omega) (fun j u hj => by
        have hlt := (List.getElem?_eq_some_iff.1 hj).1
        rw [Addr.add_lit, Nat.add_assoc, hc (q * 256 + j) (by omega)]
        rw [← bls_drop hf, List.getElem?_drop] at hj
        exact hj) (one_bls _))
      rw [hd] at h2
      rw [if_neg hcq, Option.map_some, Addr.add_lit]
      exact h2
/-- Nothing is owned of a slice that is nil. -/
theorem rows_start {w0 w : World} {L : List SP} (H : At w0 L w) : At w0 (rows 34 256 (.slice none 0 0) ([] : List Body).length (bls []) :: L) w := H.rows_nil _ _
end Go.Proofs.Ytogicnbocefkbaa
