/-
  The operations that touch memory, told of what is owned (SL): each rule hands on a new world of which only 'At' is known. No program in sight.
-/
import Derived.Test.YtgdphamdbpkjdaaDoorSL
import Derived.Test.YtgdphamdbpkjdaaDoorReg
import Derived.Stop.BytesEq
namespace Go.Hg
open Go.RowKit
set_option linter.unusedSimpArgs false
set_option linter.unusedVariables false

theorem At.sub {w0 w : World} {L L' : List SP} (H : At w0 L w) (is : List Nat) (h : ∀ h, seps L h → seps L' h) : At w0 L' w := H.imp h
theorem seps_pick : ∀ (L M : List SP), M.Sublist L → ∀ h, seps L h → seps M h := by
  intro L M s
  induction s with
  | slnil => exact fun h H => H
  | cons P _ ih => exact fun h H => ih h (sep_tail H)
  | cons_cons P _ ih => exact fun h H => sep_mono H (fun _ p => p) ih
/-- What is owned may be forgotten. -/
theorem At.weak {w0 w : World} {L M : List SP} (H : At w0 L w) (s : M.Sublist L) : At w0 M w := H.imp (seps_pick L M s)

/-- Those that are marked. -/
def mask : List Bool → List SP → List SP
  | true :: m, P :: L => P :: mask m L
  | false :: m, _ :: L => mask m L
  | _, _ => []
/-- Those that are marked, and all behind the last mark. -/
def maskR : List Bool → List SP → List SP
  | true :: m, P :: L => P :: maskR m L
  | false :: m, _ :: L => maskR m L
  | [], L => L
  | _ :: _, [] => []
theorem mask_sub : ∀ (m : List Bool) (L : List SP), (mask m L).Sublist L
  | true :: m, P :: L => (mask_sub m L).cons_cons P
  | false :: m, P :: L => (mask_sub m L).cons P
  | [], L => by simp [mask]
  | _ :: _, [] => by simp [mask]
theorem maskR_sub : ∀ (m : List Bool) (L : List SP), (maskR m L).Sublist L
  | true :: m, P :: L => (maskR_sub m L).cons_cons P
  | false :: m, P :: L => (maskR_sub m L).cons P
  | [], L => List.Sublist.refl _
  | _ :: _, [] => by simp [maskR]
theorem At.mask {w0 w : World} {L : List SP} (H : At w0 L w) (m : List Bool) : At w0 (Hg.mask m L) w := H.weak (mask_sub m L)
theorem At.maskR {w0 w : World} {L : List SP} (H : At w0 L w) (m : List Bool) : At w0 (Hg.maskR m L) w := H.weak (maskR_sub m L)

section
variable {P : Program} {o : Oper} {a : Act} {w w0 : World} {L : List SP} {K : Act → World → Prop} {Q : Exit → Act → World → Prop}

/-- An operation whose run is known. -/
theorem wp_run {v : Value} {w' : World} (hr : (execOp a.eval o).run P w = .ok (.value v) w') (h : K (a.put o.dst v) w') : OWp P o a w K Q := by
  refine owp ?_
  unfold Oper.wp
  rw [hr]
  exact h

/-- A call of a Go function. -/
theorem wp_call (f : FuncId) (args : Array Operand) (ts : Array TypeId) (ho : o.op = .call { callee := .value (.func f), args := args, argTypes := ts }) {fn : Func} (hf : P.funcs[f]? = some fn)
    (hb : fn.body.isSome = true) (hn : (fn.name == "runtime.NumGoroutine") = false)
    (h : Calls P f (args.map a.eval) w fun | .returned v, w'' => K (a.put o.dst v) w'' | _, _ => False) : OWp P o a w K Q := by
  refine owp ?_
  unfold Oper.wp execOp
  have hb2 : fn.body.isNone = false := by cases h2 : fn.body <;> simp_all
  simp only [ho, resolve, Act.eval, Deferred.ofValue, Sem.run_bind, Sem.run_pure, Result.andThen_ok, invoke, callFunc, program, Sem.run, hf, hn, hb2, Bool.false_eq_true, if_false]
  simp only [Array.empty_append, Array.append_empty, Oper.upon]
  refine h.mono fun e w'' he => ?_
  cases e with
  | returned v => exact he
  | panicked c => exact he.elim
  | outgrown => exact he.elim

theorem wp_alloc_sl (t : TypeId) (ho : o.op = .alloc t) {z : Value} {n by_ : Nat} (hi : (P.info? t).map (fun i => (i.zero, i.size, i.bytes)) = some (some z, n, by_)) (H : At w0 L w)
    (h : ∀ b w', At w0 (raw b z.cells t :: L) w' → Below w.heap.size w w' → K (a.put o.dst (.pointer (some ⟨b, 0, none⟩))) w') : OWp P o a w K Q := by
  refine owp ?_
  obtain ⟨i, hi, hz, _, _⟩ := info_of hi
  have h2 := h _ _ (H.alloc (.cells z.cells t)) ((Below.refl _ _).alloc (Nat.le_refl _) _)
  unfold Oper.wp execOp
  simp only [ho, Instr.alloc, zeroValue, typeInfo, newVar, newRow, Sem.run_bind]
  simp [hi, hz]
  exact h2

theorem wp_box_sl (t : TypeId) (x : Operand) (ho : o.op = .box t x) {v : Value} (hx : a.eval x = v) (H : At w0 L w)
    (h : ∀ b w', At w0 (raw b v.cells t :: L) w' → Below w.heap.size w w' → K (a.put o.dst (.pointer (some ⟨b, 0, none⟩))) w') : OWp P o a w K Q := by
  refine owp ?_
  have h2 := h _ _ (H.alloc (.cells v.cells t)) ((Below.refl _ _).alloc (Nat.le_refl _) _)
  unfold Oper.wp execOp
  simp only [ho, hx, Instr.box, newVar, newRow, Sem.run_bind]
  simp
  exact h2

theorem wp_buildSlice_sl (t : TypeId) (x : Operand) (ho : o.op = .buildSlice t 1 #[(0, x)]) {e : TypeId} {z v : Value} {n by_ : Nat} (ht : P.underlying t = some (.slice e)) (hi : (P.info? e).map (fun i => (i.zero, i.size, i.bytes)) = some (some z, n, by_))
    (hzs : z.cells.size = n) (hx : a.eval x = v) (hv : v.cells.size = n) (h0 : n ≠ 0) (hmax : n ≤ 16777216) (H : At w0 L w)
    (h : ∀ b w', At w0 (raw b v.cells e :: L) w' → Below w.heap.size w w' → K (a.put o.dst (.slice (some ⟨b, 0, none⟩) 1 1)) w') : OWp P o a w K Q := by
  refine owp ?_
  obtain ⟨i, hi, hz, hs, _⟩ := info_of hi
  exact wp_buildSlice_one t x ho ht hi hz (by omega) hx (by omega) (by omega) (by omega) (h _ _ (H.alloc _) ((Below.refl _ _).alloc (Nat.le_refl _) _))

theorem wp_buildSlice0_sl (t : TypeId) (ho : o.op = .buildSlice t 0 #[]) {e : TypeId} {z : Value} {n by_ : Nat} (ht : P.underlying t = some (.slice e)) (hi : (P.info? e).map (fun i => (i.zero, i.size, i.bytes)) = some (some z, n, by_)) (H : At w0 L w)
    (h : ∀ b w', At w0 (raw b #[] e :: L) w' → Below w.heap.size w w' → K (a.put o.dst (.slice (some ⟨b, 0, none⟩) 0 0)) w') : OWp P o a w K Q := by
  refine owp ?_
  obtain ⟨i, hi, hz, hs, _⟩ := info_of hi
  exact wp_buildSlice_none t ho ht hi (h _ _ (H.alloc _) ((Below.refl _ _).alloc (Nat.le_refl _) _))

/-- A variable of one cell is read. -/
theorem wp_load_sl (ty : TypeId) (x : Operand) (ho : o.op = .load ty x) {p : Addr} (hx : a.eval x = .pointer (some p)) {d : TypeDesc} (hu : P.underlying ty = some d)
    (hd : (match d with | .struct _ => true | .array _ _ => true | _ => false) = false) {v : Value} (hc : w.cell? p = some v) (h : K (a.put o.dst v) w) : OWp P o a w K Q := by
  refine owp ?_
  have hl : (load p).run P w = .ok v w := by simp [load, Sem.run, hc]
  unfold Oper.wp execOp
  cases d <;> simp_all [Instr.loadAt, Instr.sureAddr, loadVar, isAgg, run_underlying hu, Oper.upon]

def oneType (P : Program) (ty : TypeId) : Bool := match P.underlying ty with | some (.struct _) => false | some (.array _ _) => false | some _ => true | none => false
def rowType (P : Program) (ty : TypeId) : Bool := match P.underlying ty with | some (.struct _) => true | some (.array _ _) => true | _ => false
theorem oneType_spec {ty : TypeId} (h : oneType P ty = true) : ∃ d, P.underlying ty = some d ∧ (match d with | .struct _ => true | .array _ _ => true | _ => false) = false := by
  unfold oneType at h
  cases hu : P.underlying ty with
  | none => simp [hu] at h
  | some d => exact ⟨d, rfl, by cases d <;> simp_all⟩
theorem rowType_spec {ty : TypeId} (h : rowType P ty = true) : ∃ d, P.underlying ty = some d ∧ d.isRow = true := by
  unfold rowType at h
  cases hu : P.underlying ty with
  | none => simp [hu] at h
  | some d => exact ⟨d, rfl, by cases d <;> simp_all⟩
/-- The same, the type's kind by the kernel. -/
theorem wp_get (ty : TypeId) (x : Operand) (ho : o.op = .load ty x) {p : Addr} (hx : a.eval x = .pointer (some p)) (hk : oneType P ty = true) {v : Value} (hc : w.cell? p = some v) (h : K (a.put o.dst v) w) : OWp P o a w K Q := by
  refine owp ?_
  obtain ⟨d, hu, hd⟩ := oneType_spec hk
  exact OWp.out <| wp_load_sl ty x ho hx hu (by cases d <;> first | rfl | cases hd) hc h
theorem yl_get {ops : Array Oper} {S : World → Prop} (hw : Region.wanted o (yielded ops a.tmps) = true) (ty : TypeId) (x : Operand) (ho : o.op = .load ty x) {p : Addr} (hx : a.eval x = .pointer (some p)) (hk : oneType P ty = true) {v : Value} (hS : ∀ w, S w → w.cell? p = some v) : YieldsIf P ops S o v a := by
  obtain ⟨d, hu, hd⟩ := oneType_spec hk
  exact yl_load hw ty x ho p hx d hu (by cases d <;> first | rfl | cases hd) v hS

/-- The k-th of what is owned is a block; a cell of it is written. -/
theorem wp_store_sl (ty : TypeId) (x y : Operand) (ho : o.op = .store ty x y) {b off : Nat} {v : Value} (hx : a.eval x = .pointer (some ⟨b, off, none⟩)) (hy : a.eval y = v) (hi : (P.info? ty).map (·.size) = some 1) (h1 : v.oneCell' = true)
    (k : Nat) {cs : Array Value} {t : TypeId} (H : At w0 L w) (hk : L[k]? = some (raw b cs t)) (hlt : off < cs.size)
    (h : ∀ w', At w0 (L.set k (raw b (cs.setIfInBounds off v) t)) w' → K (a.put o.dst undef) w') : OWp P o a w K Q := by
  refine owp ?_
  have hb := H.heap k hk
  refine wp_store_cell ty x y ho hx hy hi h1 (u := cs[off]) ?_ (raw_free hb off) (h _ (H.setAt k off hk v))
  rw [raw_cell hb off]
  simp [hlt]

/-- A whole block is written. -/
theorem wp_store_row_sl (ty : TypeId) (x y : Operand) (ho : o.op = .store ty x y) {b : Nat} {cells : Array Value} (hx : a.eval x = .pointer (some ⟨b, 0, none⟩)) (hy : a.eval y = .agg cells) (hi : (P.info? ty).map (·.size) = some cells.size) (h1 : ∀ u ∈ cells.toList, u.oneCell' = true)
    (k : Nat) {cs : Array Value} {t : TypeId} (H : At w0 L w) (hk : L[k]? = some (raw b cs t)) (hs : cs.size = cells.size)
    (h : ∀ w', At w0 (L.set k (raw b cells t)) w' → K (a.put o.dst undef) w') : OWp P o a w K Q := by
  refine owp ?_
  have hb := H.heap k hk
  refine wp_store_row ty x y ho b cells hx hy t cs hb hi hs (Array.all_eq_true_iff_forall_mem.2 fun u hu => h1 u (by simpa using hu)) (h _ ?_)
  have H' := (H.pull k hk).setRow (cs' := cells)
  refine H'.perm ?_
  obtain ⟨hl, _⟩ := List.getElem?_eq_some_iff.1 hk
  have h2 := perm_erase (L.set k (raw b cells t)) k (raw b cells t) (by simp [hl])
  rwa [List.eraseIdx_set_eq] at h2

/-- Cells in the middle of a block are written. -/
theorem wp_store_mid_sl (ty : TypeId) (x y : Operand) (ho : o.op = .store ty x y) {b off : Nat} {cells : List Value} (hx : a.eval x = .pointer (some ⟨b, off, none⟩)) (hy : a.eval y = .agg cells.toArray) (hi : (P.info? ty).map (·.size) = some cells.length) (h1 : ∀ u ∈ cells, u.oneCell' = true)
    (k : Nat) {cs : Array Value} {t : TypeId} (H : At w0 L w) (hk : L[k]? = some (raw b cs t)) (hs : off + cells.length ≤ cs.size)
    (h : ∀ w', At w0 (L.set k (raw b (cs.toList.take off ++ cells ++ cs.toList.drop (off + cells.length)).toArray t)) w' → K (a.put o.dst undef) w') : OWp P o a w K Q := by
  refine owp ?_
  have hb := H.heap k hk
  have hst := run_storeCells_at P b off t cells 0 cs w hb (by simpa using hs) h1
  simp only [Nat.add_zero] at hst
  have H' := (H.pull k hk).setRow (cs' := (cs.toList.take off ++ cells ++ cs.toList.drop (off + cells.length)).toArray)
  have H2 : At w0 (L.set k (raw b (cs.toList.take off ++ cells ++ cs.toList.drop (off + cells.length)).toArray t)) (w.setRow b (cs.toList.take off ++ cells ++ cs.toList.drop (off + cells.length)).toArray) := by
    refine H'.perm ?_
    obtain ⟨hl, _⟩ := List.getElem?_eq_some_iff.1 hk
    have h2 := perm_erase (L.set k (raw b (cs.toList.take off ++ cells ++ cs.toList.drop (off + cells.length)).toArray t)) k (raw b (cs.toList.take off ++ cells ++ cs.toList.drop (off + cells.length)).toArray t) (by simp [hl])
    rwa [List.eraseIdx_set_eq] at h2
  have h3 := h _ H2
  unfold Oper.wp execOp
  cases hq : P.info? ty with
  | none => simp [hq] at hi
  | some i =>
    have hsz : i.size = cells.length := by simpa [hq] using hi
    simp only [ho, Instr.storeAt, hx, hy, Instr.sureAddr, storeVar, sizeOf, typeInfo, Sem.run_bind, Sem.run_pure, Result.andThen_ok]
    simp only [Sem.run, program, hq, Sem.run_pure, Result.andThen_ok, Value.cells, List.size_toArray, hsz, ne_eq, not_true_eq_false, if_false]
    simp [hst, hq, hsz, Oper.upon]
    simpa using h3

/-- A whole array or struct is read out of the middle of a block. -/
theorem wp_load_mid_sl (ty : TypeId) (x : Operand) (ho : o.op = .load ty x) {b off : Nat} (hx : a.eval x = .pointer (some ⟨b, off, none⟩)) {cs : Array Value} {t : TypeId} {fr : Nat × Nat} (hb : w.heap[b]? = some (.cells cs t fr)) (cells : List Value) {d : TypeDesc}
    (hu : P.underlying ty = some d) (hd : d.isRow = true) (hi : (P.info? ty).map (·.size) = some cells.length) (hc : (cs.toList.drop off).take cells.length = cells) (h : K (a.put o.dst (.agg cells.toArray)) w) : OWp P o a w K Q :=
  owp <| wp_load_mid ty x ho b off hx cells d (fun j v hv => by
    rw [raw_cell hb]
    rw [← hc, List.getElem?_take] at hv
    split at hv
    · rw [List.getElem?_drop] at hv
      simpa using hv
    · cases hv) hu hd hi h
/-- A whole block is read. -/
theorem wp_load_row_sl (ty : TypeId) (x : Operand) (ho : o.op = .load ty x) {b : Nat} (hx : a.eval x = .pointer (some ⟨b, 0, none⟩)) {cs : Array Value} {t : TypeId} {fr : Nat × Nat} (hb : w.heap[b]? = some (.cells cs t fr)) {d : TypeDesc}
    (hu : P.underlying ty = some d) (hd : d.isRow = true) (hi : (P.info? ty).map (·.size) = some cs.size) (h : K (a.put o.dst (.agg cs)) w) : OWp P o a w K Q := by
  refine owp ?_
  have h2 := wp_load_mid_sl (P := P) (o := o) (a := a) (K := K) (Q := Q) ty x ho hx hb cs.toList hu hd (by simpa using hi) (List.take_of_length_le (by simp)) (by simpa using h)
  exact h2.out
/-- An array or a struct is read out of known cells, the type's kind by the kernel. -/
theorem wp_mid (ty : TypeId) (x : Operand) (ho : o.op = .load ty x) {b off : Nat} (hx : a.eval x = .pointer (some ⟨b, off, none⟩)) (cells : List Value) (hk : rowType P ty = true) (hi : (P.info? ty).map (·.size) = some cells.length) (hr : w.rangeAt b off cells)
    (h : K (a.put o.dst (.agg cells.toArray)) w) : OWp P o a w K Q := by
  obtain ⟨d, hu, hd⟩ := rowType_spec hk
  exact owp <| wp_load_mid ty x ho b off hx cells d hr hu hd hi h
end

/-! ### Bytes -/
/-- The cells of bytes. -/
def bl (l : List UInt8) : List Value := l.map fun b => Value.int .u8 b.toNat
def bv (l : List UInt8) : Array Value := (bl l).toArray
theorem bl_length (l : List UInt8) : (bl l).length = l.length := by simp [bl]
theorem bv_size (l : List UInt8) : (bv l).size = l.length := by simp [bv, bl]
theorem one_bl (l : List UInt8) : ∀ u ∈ bl l, u.oneCell' = true := by
  intro u hu
  simp [bl] at hu
  obtain ⟨b, _, rfl⟩ := hu
  rfl
theorem bl_append (a b : List UInt8) : bl (a ++ b) = bl a ++ bl b := by simp [bl]

section
variable {P : Program} {o : Oper} {ρ : Operand → Value} {w : World} {t e : TypeId} {n : Nat} {a b : List UInt8} {x y : Operand} {yt : TypeId}
theorem guard_bytes (op : BinOp) (hg : P.eqGuardType P.depth t = false) (as bs : Array Value) : (eqGuard op t x y (.agg as) (.agg bs)).run P w = .ok () w := by
  unfold eqGuard
  cases op <;> simp [hg, program, Sem.run, Sem.bind, bind, pure]
theorem exec_eql_bytes (ho : o.op = .binOp .eql t x y yt) (hx : ρ x = .agg (bv a)) (hy : ρ y = .agg (bv b)) (ht : P.underlying t = some (.array n e)) (he : P.underlying e = some (.int .u8)) (hsz : ∀ w, (sizeOf e).run P w = .ok 1 w)
    (hg : P.eqGuardType P.depth t = false) (ha : a.length = n) (hb : b.length = n) : (execOp ρ o).run P w = .ok (.value (.bool (a == b))) w := by
  have h1 := run_eql_bytes (P := P) w t e n ht he hsz a b ha hb
  have h2 := guard_bytes (P := P) (w := w) (t := t) (x := x) (y := y) .eql hg (bv a) (bv b)
  unfold execOp
  simp only [ho, hx, hy, Sem.run_bind, h2, Result.andThen_ok]
  show ((binOp .eql t (.agg (a.map Extern.Stop.cell).toArray) (.agg (b.map Extern.Stop.cell).toArray)).run P w).andThen _ = _
  rw [h1]
  rfl
theorem exec_neq_bytes (ho : o.op = .binOp .neq t x y yt) (hx : ρ x = .agg (bv a)) (hy : ρ y = .agg (bv b)) (ht : P.underlying t = some (.array n e)) (he : P.underlying e = some (.int .u8)) (hsz : ∀ w, (sizeOf e).run P w = .ok 1 w)
    (hg : P.eqGuardType P.depth t = false) (ha : a.length = n) (hb : b.length = n) : (execOp ρ o).run P w = .ok (.value (.bool (!(a == b)))) w := by
  have h1 := run_equalIn_bytes (P := P) w 9998 t e n ht he hsz a b ha hb
  have h2 := guard_bytes (P := P) (w := w) (t := t) (x := x) (y := y) .neq hg (bv a) (bv b)
  unfold execOp
  simp only [ho, hx, hy, Sem.run_bind, h2, Result.andThen_ok, run_neq_struct]
  show (((Op.equalIn 10000 t (.agg (a.map Extern.Stop.cell).toArray) (.agg (b.map Extern.Stop.cell).toArray)).run P w).andThen _).andThen _ = _
  rw [h1]
  rfl
end

/-! ### Elements of an owned slice -/
/-- The i-th element's cells of a slice whose cells are xs. -/
def elem (size : Nat) (xs : List Value) (i : Nat) : List Value := (xs.drop (i * size)).take size
theorem At.rows_elem {w0 w : World} {L : List SP} {e : TypeId} {size n : Nat} {g off cap : Nat} {xs : List Value} (H : At w0 (rows e size (.slice (some ⟨g, off, none⟩) n cap) n xs :: L) w) {i : Nat} (hi : i < n) : w.rangeAt g (off + i * size) (elem size xs i) := by
  intro j v hv
  have hl := H.rows_length
  have h1 : (i + 1) * size ≤ n * size := Nat.mul_le_mul_right size hi
  rw [Nat.add_mul, Nat.one_mul] at h1
  rcases H.rows_value with ⟨h, _⟩ | ⟨g', off', cap', h, _, _, hc⟩
  · cases h
  · cases h
    unfold elem at hv
    rw [List.getElem?_take] at hv
    split at hv
    · rw [List.getElem?_drop] at hv
      rw [Nat.add_assoc, hc _ (by omega)]
      exact hv
    · cases hv
end Go.Hg
