import Derived.Test.YtmflbekabkainaaGreatDoorQMaps
import Derived.Maps.RangeRun
set_option linter.unusedSectionVars false
set_option linter.unusedVariables false
set_option linter.unusedSimpArgs false
namespace Go.Hg
open Go.RowKit
open Go.Maps (Keyed)
section
variable {α β : Type} [DecidableEq α] {P : Program} {kt et : TypeId} {ek : α → Value} {ev : β → Value} {ok : α → Prop} {w w0 : World} {L : List SP} {b : Nat} {l : List (α × β)} {x : α}
variable {o : Oper} {a : Act} {K : Act → World → Prop} {Q : Exit → Act → World → Prop} {t : TypeId} {xm xk xv : Operand}
theorem run_mlen (ht : P.underlying t = some (.map kt et)) (H : At w0 (mapo ek ev ok b l :: L) w) (ty : TypeId) : (Builtin.len_ #[t] ty #[.map (some b)]).run P w = .ok (.int .i64 (l.length : Int)) w := by
 obtain ⟨arr, clock, m, H⟩ := H.map_open
 have hg := MapKept.run_getObj_map (P := P) H.one_heap
 have hlen : arr.size = l.length := by simpa using congrArg List.length m.cells
 simp [Builtin.len_, run_underlying ht, hg, Result.andThen, goInt, hlen]
theorem map_eraseIdx {γ δ : Type} (f : γ → δ) : ∀ (l : List γ) (j : Nat), (l.eraseIdx j).map f = (l.map f).eraseIdx j
 | [], _ => rfl
 | _ :: _, 0 => rfl
 | _ :: l, j + 1 => by simp [map_eraseIdx f l j]
theorem MapOK.erase {arr : Array MapEntry} {clock j : Nat} (m : MapOK ek ev ok arr clock l) (hj : j < arr.size) : MapOK ek ev ok (arr.eraseIdxIfInBounds j) clock (l.eraseIdx j) := by
 have e : (arr.eraseIdxIfInBounds j).toList = arr.toList.eraseIdx j := by simp [Array.eraseIdxIfInBounds, hj]
 refine ⟨?_, fun p hp => m.keys p (List.mem_of_mem_eraseIdx hp), ?_, ?_, fun x hx => ?_⟩
 · rw [e, map_eraseIdx, m.cells, ← map_eraseIdx]
 · rw [map_eraseIdx]; exact m.nodup.sublist (List.eraseIdx_sublist _ _)
 · rw [e, map_eraseIdx]; exact m.born.sublist (List.eraseIdx_sublist _ _)
 · rw [e] at hx; exact m.lt x (List.mem_of_mem_eraseIdx hx)
structure RngOK (ek : α → Value) (ev : β → Value) (ok : α → Prop) (keep : α → Bool) (l0 : List (α × β)) (arr : Array MapEntry) (clock : Nat) (seen : Array Nat) (l : List (α × β)) : Prop where
 map : MapOK ek ev ok arr clock l
 rest : l.filter (fun p => keep p.1) = l0.filter (fun p => keep p.1)
 kept : ∀ (j : Nat) (e : MapEntry) (p : α × β), arr[j]? = some e → l[j]? = some p → e.born ∈ seen → keep p.1 = true
theorem left_push (arr : Array MapEntry) (seen : Array Nat) (n : Nat) : (leftOf arr (seen.push n)).toList = (leftOf arr seen).toList.filter fun e => !decide (e.born = n) := by
 unfold leftOf
 rw [Array.toList_filter, Array.toList_filter, List.filter_filter]
 refine List.filter_congr fun e _ => ?_
 rw [Bool.eq_iff_iff]
 simp
 exact ⟨fun h => ⟨h.2, h.1⟩, fun h => ⟨h.2, h.1⟩⟩
theorem left_lt {arr : Array MapEntry} {seen : Array Nat} {e : MapEntry} (he : e ∈ (leftOf arr seen).toList) : (leftOf arr (seen.push e.born)).size < (leftOf arr seen).size := by
 rw [← Array.length_toList, left_push, ← Array.length_toList]
 refine Nat.lt_of_le_of_ne (List.length_filter_le _ _) fun h => ?_
 have := List.length_filter_eq_length_iff.1 h e he
 simp at this
theorem left_erase {arr : Array MapEntry} {seen : Array Nat} (j : Nat) : (leftOf (arr.eraseIdxIfInBounds j) seen).size ≤ (leftOf arr seen).size := by
 rw [← Array.length_toList, ← Array.length_toList]
 unfold leftOf
 rw [Array.toList_filter, Array.toList_filter]
 refine (List.Sublist.filter _ ?_).length_le
 unfold Array.eraseIdxIfInBounds
 split
 · rw [Array.toList_eraseIdx]; exact List.eraseIdx_sublist _ _
 · exact List.Sublist.refl _
theorem left_get {arr : Array MapEntry} {seen : Array Nat} {clock : Nat} (m : MapOK ek ev ok arr clock l) {e : MapEntry} (he : e ∈ (leftOf arr seen).toList) : ∃ (j : Nat) (p : α × β), arr[j]? = some e ∧ l[j]? = some p ∧ e.key = ek p.1 ∧ e.val = ev p.2 := by
 unfold leftOf at he
 rw [Array.toList_filter, List.mem_filter] at he
 obtain ⟨j, hj⟩ := List.getElem?_of_mem he.1
 have hj' : arr[j]? = some e := by simpa using hj
 obtain ⟨p, h1, h2, h3⟩ := m.get hj'
 exact ⟨j, p, hj', h1, h2, h3⟩
theorem born_idx {arr : Array MapEntry} {clock : Nat} (m : MapOK ek ev ok arr clock l) {i j : Nat} {e f : MapEntry} (hi : arr[i]? = some e) (hj : arr[j]? = some f) (h : e.born = f.born) : i = j := by
 obtain ⟨h1, rfl⟩ := Array.getElem?_eq_some_iff.1 hi
 obtain ⟨h2, rfl⟩ := Array.getElem?_eq_some_iff.1 hj
 exact (List.getElem_inj (h₀ := by simpa using h1) (h₁ := by simpa using h2) m.born).1 (by simpa using h)
variable {keep : α → Bool} {l0 : List (α × β)} {arr : Array MapEntry} {clock : Nat} {seen : Array Nat}
theorem RngOK.start (m : MapOK ek ev ok arr clock l0) : RngOK ek ev ok keep l0 arr clock #[] l0 := ⟨m, rfl, fun j e p _ _ h => by simp at h⟩
theorem RngOK.stay (R : RngOK ek ev ok keep l0 arr clock seen l) {j : Nat} {e : MapEntry} {p : α × β} (ha : arr[j]? = some e) (hl : l[j]? = some p) (hk : keep p.1 = true) : RngOK ek ev ok keep l0 arr clock (seen.push e.born) l := by
 refine ⟨R.map, R.rest, fun i f q hf hq hb => ?_⟩
 rcases Array.mem_push.1 hb with hb | hb
 · exact R.kept i f q hf hq hb
 · have := born_idx R.map hf ha hb
   subst this
   rw [hl] at hq
   cases hq
   exact hk
theorem RngOK.gone (R : RngOK ek ev ok keep l0 arr clock seen l) {j : Nat} {e : MapEntry} {p : α × β} (ha : arr[j]? = some e) (hl : l[j]? = some p) (hk : keep p.1 = false) : RngOK ek ev ok keep l0 (arr.eraseIdxIfInBounds j) clock (seen.push e.born) (l.eraseIdx j) := by
 obtain ⟨hj, _⟩ := Array.getElem?_eq_some_iff.1 ha
 have e1 : (arr.eraseIdxIfInBounds j).toList = arr.toList.eraseIdx j := by simp [Array.eraseIdxIfInBounds, hj]
 refine ⟨R.map.erase hj, ?_, fun i f q hf hq hb => ?_⟩
 · rw [← R.rest]
   have hl' := List.getElem?_eq_some_iff.1 hl
   obtain ⟨hjl, rfl⟩ := hl'
   rw [List.eraseIdx_eq_take_drop_succ, List.filter_append]
   conv => rhs; rw [← List.take_append_drop j l, List.drop_eq_getElem_cons hjl, List.filter_append, List.filter_cons, hk]
   simp
 · have hf' : (arr.toList.eraseIdx j)[i]? = some f := by rw [← e1, Array.getElem?_toList]; exact hf
   rw [List.getElem?_eraseIdx] at hf' hq
   rcases Array.mem_push.1 hb with hb | hb
   · split at hf'
     · rw [if_pos (by assumption)] at hq
       exact R.kept i f q (by simpa using hf') hq hb
     · rw [if_neg (by assumption)] at hq
       exact R.kept (i + 1) f q (by simpa using hf') hq hb
   · split at hf'
     · have := born_idx R.map (i := i) (by simpa using hf') ha hb
       omega
     · have := born_idx R.map (i := i + 1) (by simpa using hf') ha hb
       omega
theorem RngOK.over (R : RngOK ek ev ok keep l0 arr clock seen l) (h0 : (leftOf arr seen).size = 0) : l = l0.filter fun p => keep p.1 := by
 rw [← R.rest]
 refine (List.filter_eq_self.2 fun p hp => ?_).symm
 obtain ⟨j, hj⟩ := List.getElem?_of_mem hp
 have hlen : arr.toList.length = l.length := by simpa using congrArg List.length R.map.cells
 have hja : j < arr.size := by rw [← Array.length_toList, hlen]; exact (List.getElem?_eq_some_iff.1 hj).1
 have ha : arr[j]? = some arr[j] := Array.getElem?_eq_getElem hja
 refine R.kept j _ p ha hj ?_
 by_cases hm : arr[j].born ∈ seen
 · exact hm
 · have : arr[j] ∈ (leftOf arr seen).toList := by
     unfold leftOf
     rw [Array.toList_filter, List.mem_filter]
     exact ⟨by simp, by simpa using hm⟩
   rw [show (leftOf arr seen).toList = [] from List.eq_nil_of_length_eq_zero (by rw [Array.length_toList]; exact h0)] at this
   cases this
def leftW (w : World) (r : Nat) : Nat := match w.heap[r]? with
 | some (.mapIter (some b) _ seen _) => match w.heap[b]? with
  | some (.map arr _) => (leftOf arr seen).size
  | _ => 0
 | _ => 0
theorem leftW_at {r : Nat} (H : At w0 (one b (.map arr clock) :: one r (.mapIter (some b) clock seen clock) :: L) w) : leftW w r = (leftOf arr seen).size := by
 unfold leftW
 rw [H.heap 1 rfl]
 simp only
 rw [H.heap 0 rfl]
theorem wp_mrange (ho : o.op = .range t xm) (ht : P.underlying t = some (.map kt et)) (H : At w0 (mapo ek ev ok b l :: L) w) (hm : a.eval xm = .map (some b))
    (h : ∀ r arr clock w', MapOK ek ev ok arr clock l → At w0 (one b (.map arr clock) :: one r (.mapIter (some b) clock #[] clock) :: L) w' → K (a.put o.dst (.pointer (some ⟨r, 0, none⟩))) w') : OWp P o a w K Q := by
 obtain ⟨arr, clock, m, H⟩ := H.map_open
 have hb := H.one_heap
 have hg := MapKept.run_getObj_map (P := P) hb
 have hr : (Instr.range t (.map (some b))).run P w = .ok (.pointer (some ⟨w.heap.size, 0, none⟩)) (w.alloc (.mapIter (some b) clock #[] clock)) := by
  simp [Instr.range, run_underlying ht, hg, Result.andThen, newObj, Sem.run]
 refine owp ?_
 unfold Oper.wp execOp
 simp only [ho, hm, Sem.run_bind, hr, Result.andThen_ok, Sem.run_pure]
 exact h _ arr clock _ m ((H.alloc _).pull 1 rfl)
theorem wp_mnext {r : Nat} (ho : o.op = .next xm false) (R : RngOK ek ev ok keep l0 arr clock seen l) (H : At w0 (one b (.map arr clock) :: one r (.mapIter (some b) clock seen clock) :: L) w) (hm : a.eval xm = .pointer (some ⟨r, 0, none⟩))
    (hDone : l = l0.filter (fun p => keep p.1) → K (a.put o.dst (.tuple #[.bool false])) w)
    (hMore : ∀ (j : Nat) (e : MapEntry) (p : α × β) (w' : World), arr[j]? = some e → l[j]? = some p → e.key = ek p.1 → e.val = ev p.2 → (leftOf arr (seen.push e.born)).size < (leftOf arr seen).size →
     At w0 (one b (.map arr clock) :: one r (.mapIter (some b) clock (seen.push e.born) clock) :: L) w' → K (a.put o.dst (.tuple #[.bool true, ek p.1, ev p.2])) w') : OWp P o a w K Q := by
 refine owp ?_
 unfold Oper.wp execOp
 rcases run_next_at (P := P) w o.type r b clock clock seen arr clock (H.heap 1 rfl) (H.heap 0 rfl) (fun x hx => R.map.lt x hx) (Nat.le_refl _) with ⟨h0, hr⟩ | ⟨e, he, w1, hw, hr⟩
 · simp only [ho, hm, Sem.run_bind, hr, Result.andThen_ok, Sem.run_pure]
   exact hDone (R.over h0)
 · obtain ⟨j, p, h1, h2, h3, h4⟩ := left_get R.map he
   have H1 : At w0 (one b (.map arr clock) :: one r (.mapIter (some b) clock seen clock) :: L) w1 := by
    rcases hw with rfl | rfl
    · exact H
    · exact H.drew
   have H2 := (H1.pull 1 rfl).put (w' := ChangeMaps.setBlock w1 r (.mapIter (some b) clock (seen.push e.born) clock)) (MapKept.heap_set ((H1.pull 1 rfl).one_heap)).1 (MapKept.heap_set ((H1.pull 1 rfl).one_heap)).2 rfl rfl rfl (by simp [ChangeMaps.setBlock])
   simp only [ho, hm, Sem.run_bind, hr, Result.andThen_ok, Sem.run_pure]
   rw [h3, h4]
   exact hMore j e p _ h1 h2 h3 h4 (left_lt he) (H2.pull 1 rfl)
theorem exec_mentry {r j : Nat} {e : MapEntry} {p : α × β} {ρ : Operand → Value} (ho : o.op = .entry xm) (m : MapOK ek ev ok arr clock l) (H : At w0 (one b (.map arr clock) :: one r (.mapIter (some b) clock (seen.push e.born) clock) :: L) w) (hm : ρ xm = .pointer (some ⟨r, 0, none⟩)) (ha : arr[j]? = some e) (h1 : e.key = ek p.1) (h2 : e.val = ev p.2) :
    (execOp ρ o).run P w = .ok (.value (.tuple #[ek p.1, ev p.2])) w := by
 have hr := run_entry_at (P := P) w r b clock seen arr clock e (H.heap 1 rfl) (H.heap 0 rfl) (by have := Array.mem_of_getElem? ha; simpa using this) m.born
 unfold execOp
 simp only [ho, hm, Sem.run_bind, hr, Result.andThen_ok, Sem.run_pure, h1, h2]
theorem run_rdel {j : Nat} {p : α × β} (M : MK P kt ek ok) (ht : P.underlying t = some (.map kt et)) (m : MapOK ek ev ok arr clock l) (H : At w0 (one b (.map arr clock) :: L) w) (hl : l[j]? = some p) (tk ty : TypeId) :
    ∃ w', (Builtin.delete_ #[t, tk] ty #[.map (some b), ek p.1]).run P w = .ok (.tuple #[]) w' ∧ At w0 (one b (.map (arr.eraseIdxIfInBounds j) clock) :: L) w' := by
 have hx := m.keys p (List.mem_of_getElem? hl)
 obtain ⟨lx, hlx⟩ := M.key _ hx
 have hb := H.one_heap
 have hg := MapKept.run_getObj_map (P := P) hb
 have hc := M.law.check w arr.isEmpty hlx
 rcases m.find M hx w with ⟨h1, h2⟩ | ⟨i, e, v0, h1, h2, h3, h4, h5⟩
 · exact absurd (List.mem_map.2 ⟨p, List.mem_of_getElem? hl, rfl⟩) h1
 · have := nodup_idx m.nodup h1 hl rfl
   subst this
   refine ⟨_, ?_, H.setMap⟩
   simp [Builtin.delete_, run_underlying ht, hg, hc, h5, MapKept.run_setObj_map _ hb, Result.andThen]
theorem wp_mdel {j : Nat} {p : α × β} {tk : TypeId} (ho : o.op = .call { callee := .builtin .delete, args := #[xm, xk], argTypes := #[t, tk] }) (M : MK P kt ek ok) (ht : P.underlying t = some (.map kt et)) (m : MapOK ek ev ok arr clock l) (H : At w0 (one b (.map arr clock) :: L) w) (hl : l[j]? = some p)
    (hm : a.eval xm = .map (some b)) {kv : Value} (hk : a.eval xk = kv) (hkv : kv = ek p.1) (h : ∀ w', At w0 (one b (.map (arr.eraseIdxIfInBounds j) clock) :: L) w' → K (a.put o.dst (.tuple #[])) w') : OWp P o a w K Q := by
 subst hkv
 obtain ⟨w', hr, H'⟩ := run_rdel M ht m H hl tk o.type
 refine owp ?_
 unfold Oper.wp execOp
 simp only [ho, resolve, invoke, builtin, Sem.run_bind, Sem.run_pure, Result.andThen_ok, List.map_toArray, List.map_cons, List.map_nil, hm, hk, hr]
 exact h w' H'
theorem wp_mlen (ho : o.op = .call { callee := .builtin .len, args := #[xm], argTypes := #[t] }) (ht : P.underlying t = some (.map kt et)) (H : At w0 (mapo ek ev ok b l :: L) w) (hm : a.eval xm = .map (some b))
    (h : K (a.put o.dst (.int .i64 (l.length : Int))) w) : OWp P o a w K Q := by
 have hr := run_mlen ht H o.type
 refine owp ?_
 unfold Oper.wp execOp
 simp only [ho, resolve, invoke, builtin, Sem.run_bind, Sem.run_pure, Result.andThen_ok, List.map_toArray, List.map_cons, List.map_nil, hm, hr]
 exact h
end
end Go.Hg
