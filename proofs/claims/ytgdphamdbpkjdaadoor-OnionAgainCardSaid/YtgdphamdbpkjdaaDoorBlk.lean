/-
  Blocks of bytes: arrays that are stored, read, seen as slices; slices that are written out. No program in sight.
-/
import Derived.Test.YtgdphamdbpkjdaaDoorSee
import Derived.Great.BuildSlice
import Derived.Laws.Cover3
import Derived.Laws.IdiomStrings
namespace Go.Hg
open Go.RowKit
set_option linter.unusedVariables false
/-- The first ones of T, then those of B. -/
def over (T B : List (BitVec 8)) (i : Nat) : List (BitVec 8) := T.take i ++ B.drop i
theorem over_length {T B : List (BitVec 8)} (h : T.length = B.length) (i : Nat) : (over T B i).length = B.length := by simp [over]; omega
theorem over_zero (T B : List (BitVec 8)) : over T B 0 = B := by simp [over]
theorem over_full {T B : List (BitVec 8)} (h : T.length = B.length) {n : Nat} (hn : n = B.length) : over T B n = T := by
  subst hn
  simp [over, ← h]
theorem over_get {T B : List (BitVec 8)} (h : T.length = B.length) {i : Nat} (hi : i < B.length) : gb (over T B i) i = gb B i := by
  unfold gb over
  rw [List.getD_eq_getElem?_getD, List.getD_eq_getElem?_getD, List.getElem?_append_right (by rw [List.length_take]; omega), List.getElem?_drop]
  congr 2
  rw [List.length_take]
  omega
theorem over_set {T B : List (BitVec 8)} (h : T.length = B.length) {i : Nat} (hi : i < B.length) : (over T B i).set i (gb T i) = over T B (i + 1) := by
  have hl : (T.take i).length = i := by rw [List.length_take]; omega
  unfold over
  rw [List.set_append_right _ _ (by omega), hl, Nat.sub_self, List.drop_eq_getElem_cons hi, List.set_cons_zero, List.take_add_one, gb_get (by omega), List.append_assoc]
  rfl
theorem gb_map {bs : List (BitVec 8)} {f : BitVec 8 → BitVec 8} {i : Nat} (hi : i < bs.length) : gb (bs.map f) i = f (gb bs i) := gb_of (by rw [List.getElem?_map, gb_get hi]; rfl)
section
variable {P : Program} {o : Oper} {a : Act} {w w0 : World} {L F : List SP} {K : Act → World → Prop} {Q : Exit → Act → World → Prop}
/-- A whole array of bytes is stored. -/
theorem wp_sta (ty : TypeId) (x y : Operand) (ho : o.op = .store ty x y) {b : Nat} {bs cs : List (BitVec 8)} (hx : a.eval x = .pointer (some ⟨b, 0, none⟩)) (hy : a.eval y = .agg (v8 cs).toArray) (hi : (P.info? ty).map (·.size) = some cs.length)
    (k : Nat) {t : TypeId} (H : At w0 L w) (hk : L[k]? = some (raw b (v8 bs).toArray t)) (hs : bs.length = cs.length)
    (h : ∀ w', At w0 (L.set k (raw b (v8 cs).toArray t)) w' → K (a.put o.dst undef) w') : OWp P o a w K Q :=
  wp_store_row_sl ty x y ho hx hy (by rw [List.size_toArray, v8_length]; exact hi) (by simpa using v8_one cs) k H hk (by rw [List.size_toArray, List.size_toArray, v8_length, v8_length, hs]) h
/-- A whole array of bytes is read. -/
theorem wp_lda (ty : TypeId) (x : Operand) (ho : o.op = .load ty x) {b : Nat} {bs : List (BitVec 8)} (hx : a.eval x = .pointer (some ⟨b, 0, none⟩)) (hk : rowType P ty = true) (hi : (P.info? ty).map (·.size) = some bs.length)
    (k : Nat) {t : TypeId} (H : At w0 L w) (hL : L[k]? = some (raw b (v8 bs).toArray t)) (h : K (a.put o.dst (.agg (v8 bs).toArray)) w) : OWp P o a w K Q :=
  wp_mid ty x ho hx (v8 bs) hk (by rw [v8_length]; exact hi) (fun j v hv => by rw [Nat.zero_add, raw_cell (H.heap k hL), List.getElem?_toArray]; exact hv) h
theorem yl_lda {ops : Array Oper} {S : World → Prop} (hw : Region.wanted o (yielded ops a.tmps) = true) (ty : TypeId) (x : Operand) (ho : o.op = .load ty x) {b : Nat} {bs : List (BitVec 8)} (hx : a.eval x = .pointer (some ⟨b, 0, none⟩)) (hk : rowType P ty = true) (hi : (P.info? ty).map (·.size) = some bs.length)
    (hS : ∀ w, S w → w.rangeAt b 0 (v8 bs)) : YieldsIf P ops S o (.agg (v8 bs).toArray) a :=
  yl_mid hw ty x ho hx (v8 bs) hk (by rw [v8_length]; exact hi) hS
theorem at_blk (H : At w0 L w) (k : Nat) {b : Nat} {cs : List Value} {t : TypeId} (hL : L[k]? = some (raw b cs.toArray t)) : w.rangeAt b 0 cs := fun j v hv => by
  rw [Nat.zero_add, raw_cell (H.heap k hL), List.getElem?_toArray]
  exact hv
/-- A part of a block. -/
theorem at_part (H : At w0 L w) (k : Nat) {b off : Nat} {cs xs : List Value} {t : TypeId} (hL : L[k]? = some (raw b cs.toArray t)) (hc : (cs.drop off).take xs.length = xs) : w.rangeAt b off xs := fun j v hv => by
  rw [raw_cell (H.heap k hL), List.getElem?_toArray]
  rw [← hc, List.getElem?_take] at hv
  split at hv
  · rwa [List.getElem?_drop] at hv
  · cases hv
/-- A block of bytes as a slice. -/
theorem see_blk (q : Nat) {b n : Nat} {bs : List (BitVec 8)} {t : TypeId} (hk : F[q]? = some (raw b (v8 bs).toArray t)) (hn : n = bs.length) : SeeB w0 F (.slice (some ⟨b, 0, none⟩) n n) bs := by
  subst hn
  refine see_raw (c := c8) q hk (Nat.le_refl _) ?_
  rw [cl_c8, v8_length, List.drop_zero, List.take_of_length_le (by rw [v8_length]; exact Nat.le_refl _)]
/-- A part of a block of bytes as a slice. -/
theorem see_part (q : Nat) {b off n cap : Nat} {cs : List Value} {bs : List (BitVec 8)} {t : TypeId} (hk : F[q]? = some (raw b cs.toArray t)) (hn : n = bs.length) (hcap : n ≤ cap) (hc : (cs.drop off).take n = v8 bs) : SeeB w0 F (.slice (some ⟨b, off, none⟩) n cap) bs := by
  subst hn
  refine see_raw (c := c8) q hk hcap ?_
  rw [cl_c8, v8_length]
  exact hc
/-- The first ones, as an array. -/
theorem see_range {bs : List (BitVec 8)} {b off n cap : Nat} (H : At w0 F w) (h : SeeB w0 F (.slice (some ⟨b, off, none⟩) n cap) bs) (m : Nat) : w.rangeAt b off (v8 (bs.take m)) := by
  obtain ⟨_, _, _, _, hr⟩ := h.cells H
  intro j v hv
  refine hr b off rfl j v ?_
  rw [cl_c8]
  have hlt := (List.getElem?_eq_some_iff.1 hv).1
  rw [v8_length, List.length_take] at hlt
  rw [← hv]
  unfold v8
  rw [List.getElem?_map, List.getElem?_map, List.getElem?_take, if_pos (by omega)]
theorem one_cells {v : Value} (h : v.oneCell' = true) : v.cells = #[v] := by cases v <;> first | rfl | simp [Value.oneCell'] at h
/-- A slice of one-cell values that is written out. -/
theorem wp_list1 (t : TypeId) {e : TypeId} (ht : P.underlying t = some (.slice e)) {z : Value} {by_ : Nat} (hi : (P.info? e).map (fun i => (i.zero, i.size, i.bytes)) = some (some z, 1, by_)) (len : Nat) (parts : Array (Nat × Operand)) (ho : o.op = .buildSlice t len parts) (vs : List Value) (hlen : len = vs.length) (hpos : 0 < len) (hsmall : len ≤ 2 ^ 24)
    (hparts : (parts.map fun (i, x) => (i, a.eval x)).toList = (vs.zipIdx 0).map fun x => (x.2, x.1)) (h1 : ∀ v ∈ vs, v.oneCell' = true) (H : At w0 L w)
    (h : ∀ b w', At w0 (raw b vs.toArray e :: L) w' → K (a.put o.dst (.slice (some ⟨b, 0, none⟩) len len)) w') : OWp P o a w K Q := by
  obtain ⟨i, hi2, hz, hsz, hby⟩ := info_of hi
  refine owp (wp_buildSlice t e len parts ho vs.toArray i z ht hi2 hz (by rw [hsz]; omega) (by rw [hsz]; omega) ?_ (h _ _ (H.alloc _)))
  rw [hparts, hsz]
  exact Great.fill_flat _ _ (fun v hv => one_cells (h1 v hv)) (by simp [hlen])
/-- The bytes of a string. -/
def labB (s : ByteArray) : List (BitVec 8) := s.data.toList.map fun b => b.toBitVec
theorem labB_length (s : ByteArray) : (labB s).length = s.size := by
  unfold labB
  rw [List.length_map, Array.length_toList]
  rfl
theorem labB_get {s : ByteArray} {j : Nat} {v : Value} (h : (v8 (labB s))[j]? = some v) (cap : Nat) : (bytesRow s cap)[j]? = some v := by
  have hlt := (List.getElem?_eq_some_iff.1 h).1
  rw [v8_length, labB_length] at hlt
  rw [bytesRow_at s cap j hlt, ← h]
  unfold v8 labB
  rw [List.getElem?_map, List.getElem?_map, Array.getElem?_toList, Array.getElem?_eq_getElem hlt]
  rfl
/-- The bytes of a string, as a new slice. -/
theorem wp_tobytes (src dst : TypeId) (x : Operand) (ho : o.op = .convert src dst x) {e : TypeId} (hs : P.underlying src = some .string) (hd : P.underlying dst = some (.slice e)) (he : P.underlying e = some (.int .u8)) {s : ByteArray} (hx : a.eval x = .string s) (H : At w0 L w)
    (h : ∀ b cap fr w', s.size ≤ cap → At w0 (one b (.cells (bytesRow s cap) e fr) :: L) w' → K (a.put o.dst (.slice (some ⟨b, 0, none⟩) s.size cap)) w') : OWp P o a w K Q := by
  have hr := run_bytes_of_string (P := P) w src dst e s hs hd he
  have hx2 : (execOp a.eval o).run P w = .ok (.value (.slice (some ⟨w.heap.size, 0, none⟩) s.size (grownCap w s.size 0 e))) (w.drew.alloc (.cells (bytesRow s (grownCap w s.size 0 e)) e ((bytesRow s (grownCap w s.size 0 e)).size, (bytesRow s (grownCap w s.size 0 e)).size + 1))) := by
    unfold execOp
    simp only [ho, hx, Sem.run_bind, hr, Result.andThen_ok, Sem.run_pure]
  exact wp_run hx2 (h _ _ _ _ (grownCap_ge w s.size 0 e) (H.drew.alloc _))
theorem see_str (q : Nat) {b cap : Nat} {s : ByteArray} {e : TypeId} {fr : Nat × Nat} (hk : F[q]? = some (one b (.cells (bytesRow s cap) e fr))) (hc : s.size ≤ cap) : SeeB w0 F (.slice (some ⟨b, 0, none⟩) s.size cap) (labB s) := by
  refine ⟨_, cap, b, 0, by rw [labB_length], by rw [labB_length]; exact hc, fun _ => rfl, ⟨(fun e => by cases e), (fun x e => by cases e; rfl)⟩, fun w' H j v hj => ?_⟩
  rw [cl_c8] at hj
  rw [Nat.zero_add, raw_cell (H.heap q hk)]
  exact labB_get hj cap
/-- A struct is put together. -/
theorem wp_build (t : TypeId) (parts : Array (Nat × Operand)) (ho : o.op = .build t parts) {ps : List (Nat × Value)} (hp : (parts.map fun (i, x) => (i, a.eval x)).toList = ps) {v : Value} (hr : (Instr.build t ps.toArray).run P w = .ok v w) (h : K (a.put o.dst v) w) : OWp P o a w K Q := by
  subst hp
  refine wp_run (v := v) (w' := w) ?_ h
  unfold execOp
  simp only [ho, Sem.run_bind]
  have e : (parts.map fun (i, x) => (i, a.eval x)).toList.toArray = parts.map fun (i, x) => (i, a.eval x) := Array.toArray_toList
  rw [e] at hr
  rw [hr]
  simp only [Result.andThen_ok, Sem.run_pure]
theorem yl_build {ops : Array Oper} {S : World → Prop} (hw : Region.wanted o (yielded ops a.tmps) = true) (t : TypeId) (parts : Array (Nat × Operand)) (ho : o.op = .build t parts) {ps : List (Nat × Value)} (hp : (parts.map fun (i, x) => (i, a.eval x)).toList = ps) {v : Value} (hr : ∀ w, (Instr.build t ps.toArray).run P w = .ok v w) : YieldsIf P ops S o v a :=
  yl hw fun w _ => by
    subst hp
    unfold execOp
    simp only [ho, Sem.run_bind]
    have e : (parts.map fun (i, x) => (i, a.eval x)).toList.toArray = parts.map fun (i, x) => (i, a.eval x) := Array.toArray_toList
    have hr := hr w
    rw [e] at hr
    rw [hr]
    simp only [Result.andThen_ok, Sem.run_pure]
/-- A slice as an array's place. -/
theorem wp_arr (arr : TypeId) (x : Operand) (ho : o.op = .sliceToArrayPointer arr x) {e : TypeId} {n : Nat} (hu : P.underlying arr = some (.array n e)) {b : Option Addr} {len cap : Nat} (hx : a.eval x = .slice b len cap) (hn : n ≤ len) (h : K (a.put o.dst (.pointer b)) w) : OWp P o a w K Q := by
  refine wp_run (v := .pointer b) (w' := w) ?_ h
  unfold execOp
  simp only [ho, hx, Sem.run_bind, run_arrayAt w arr e n b len cap hu hn, Result.andThen_ok, Sem.run_pure]
theorem yl_arr {ops : Array Oper} {S : World → Prop} (hw : Region.wanted o (yielded ops a.tmps) = true) (arr : TypeId) (x : Operand) (ho : o.op = .sliceToArrayPointer arr x) {e : TypeId} {n : Nat} (hu : P.underlying arr = some (.array n e)) {b : Option Addr} {len cap : Nat} (hx : a.eval x = .slice b len cap) (hn : n ≤ len) : YieldsIf P ops S o (.pointer b) a :=
  yl hw fun w _ => by
    unfold execOp
    simp only [ho, hx, Sem.run_bind, run_arrayAt w arr e n b len cap hu hn, Result.andThen_ok, Sem.run_pure]
end
/-! ### Results that lie in memory -/
section
variable {P : Program} {w : World} {fn : Func}
theorem rd_row {ty : TypeId} {b off : Nat} {cells : List Value} (hr : w.rangeAt b off cells) (hk : rowType P ty = true) (hi : (P.info? ty).map (·.size) = some cells.length) : (loadVar ty ⟨b, off, none⟩).run P w = .ok (.agg cells.toArray) w := by
  obtain ⟨d, hu, hd⟩ := rowType_spec hk
  exact run_loadVar_mid w b off ty cells d hr hu hd hi
theorem results_row {p : Tmp} {ty : TypeId} (h : fn.results = #[.cell p ty]) (tmps : Array Value) {b : Nat} {cells : List Value} (hp : tmps.getD p undef = .pointer (some ⟨b, 0, none⟩)) (hr : w.rangeAt b 0 cells) (hk : rowType P ty = true) (hi : (P.info? ty).map (·.size) = some cells.length) :
    (results fn tmps).run P w = .ok (.agg cells.toArray) w := by
  have h1 := rd_row hr hk hi
  have hp' : tmps[p]?.getD undef = .pointer (some ⟨b, 0, none⟩) := by simpa using hp
  simp [results, h, hp', asAddr, h1]
theorem results_row_tmp {p u : Tmp} {ty : TypeId} (h : fn.results = #[.cell p ty, .tmp u]) (tmps : Array Value) {b : Nat} {cells : List Value} (hp : tmps.getD p undef = .pointer (some ⟨b, 0, none⟩)) (hr : w.rangeAt b 0 cells) (hk : rowType P ty = true) (hi : (P.info? ty).map (·.size) = some cells.length) {v : Value} (hu : tmps.getD u undef = v) :
    (results fn tmps).run P w = .ok (.tuple #[.agg cells.toArray, v]) w := by
  have h1 := rd_row hr hk hi
  have hp' : tmps[p]?.getD undef = .pointer (some ⟨b, 0, none⟩) := by simpa using hp
  have hu' : tmps[u]?.getD undef = v := by simpa using hu
  simp [results, h, hp', hu', asAddr, h1, Result.andThen]
theorem results_row2_tmp {p q u : Tmp} {ty ty2 : TypeId} (h : fn.results = #[.cell p ty, .cell q ty2, .tmp u]) (tmps : Array Value) {b b2 : Nat} {cells cells2 : List Value} (hp : tmps.getD p undef = .pointer (some ⟨b, 0, none⟩)) (hr : w.rangeAt b 0 cells) (hk : rowType P ty = true) (hi : (P.info? ty).map (·.size) = some cells.length)
    (hp2 : tmps.getD q undef = .pointer (some ⟨b2, 0, none⟩)) (hr2 : w.rangeAt b2 0 cells2) (hk2 : rowType P ty2 = true) (hi2 : (P.info? ty2).map (·.size) = some cells2.length) {v : Value} (hu : tmps.getD u undef = v) :
    (results fn tmps).run P w = .ok (.tuple #[.agg cells.toArray, .agg cells2.toArray, v]) w := by
  have h1 := rd_row hr hk hi
  have h2 := rd_row hr2 hk2 hi2
  have hp' : tmps[p]?.getD undef = .pointer (some ⟨b, 0, none⟩) := by simpa using hp
  have hp2' : tmps[q]?.getD undef = .pointer (some ⟨b2, 0, none⟩) := by simpa using hp2
  have hu' : tmps[u]?.getD undef = v := by simpa using hu
  simp [results, h, hp', hp2', hu', asAddr, h1, h2, Sem.run_bind, Result.andThen]
end
end Go.Hg
