/-
  An append keeps what the slice held, where it held it. No program in sight.
-/
import Derived.Test.YtgdphamdbpkjdaaDoorHgA
namespace Go.Hg
open Go.RowKit
set_option linter.unusedVariables false
section
variable {w0 w : World} {e : TypeId} {size n g off cap : Nat} {xs : List Value} {L : List SP}
theorem At.rows_range {k : Nat} {n' cap' : Nat} {ys : List Value} (H : At w0 (rows e size (.slice (some ⟨g, off, none⟩) n' cap') n' ys :: L) w) : w.rangeAt g off ys := fun j u hj => by
  obtain ⟨cur, hb, _, _, _, ht⟩ := At.rows_blk H
  rw [raw_cell hb]
  rw [← ht, List.getElem?_take] at hj
  split at hj
  · rw [List.getElem?_drop] at hj
    simpa using hj
  · cases hj
theorem run_append_keep {P : Program} (H : At w0 (rows e size (.slice (some ⟨g, off, none⟩) n cap) n xs :: L) w) (t t2 ty : TypeId) (i : TypeInfo) (z : Value) (bytes : Nat) (ht : P.underlying t = some (.slice e)) (ht2 : SrcType P t2)
    (hi : P.info? e = some i) (hz : i.zero = some z) (hsize : i.size = size) (hby : i.bytes = bytes) (hzs : z.cells.size = size)
    {x : Value} {m : Nat} {news : List Value} (hx : Src P size w x m news) (h63 : n + m ≤ maxLen) (hbytes : (n + m) * bytes ≤ 140737488355328) :
    ∃ v' w', (Builtin.append_ #[t, t2] ty #[.slice (some ⟨g, off, none⟩) n cap, x]).run P w = .ok v' w' ∧ At w0 (rows e size v' (n + m) (xs ++ news) :: L) w' ∧ w'.rangeAt g off xs := by
  obtain ⟨v', w', hr, h2, _⟩ := run_append_sl H t t2 ty i z bytes ht ht2 hi hz hsize hby hzs hx h63 hbytes
  refine ⟨v', w', hr, h2, ?_⟩
  subst hsize
  subst hby
  have hsmall : n + m ≤ 9223372036854775807 := by simp only [maxLen] at h63; omega
  have hxl := H.rows_length
  have hnl := hx.length
  obtain ⟨cur, hheap, hnc, hcm, hcs, htake⟩ := At.rows_blk H
  by_cases hroom : n + m ≤ cap
  · have hfit : off + n * i.size + news.length ≤ cur.size := by
      have := Nat.mul_le_mul_right i.size hroom
      rw [Nat.add_mul] at this
      omega
    have hst := run_storeCells_at P g (off + n * i.size) e news 0 cur w hheap (by omega) hx.one
    simp only [Nat.add_zero] at hst
    have h1 := append_stay (base := some ⟨g, off, none⟩) (sLen := n) (sCap := cap) t t2 ty e i ht ht2 hi hx hroom (fun a ha => by cases ha; rw [Addr.add_lit]; exact hst) (fun e => nomatch e)
    rw [hr] at h1
    cases h1
    have h4 := At.rows_range (k := 0) h2
    exact fun j u hj => h4 j u (by rw [List.getElem?_append_left (List.getElem?_eq_some_iff.1 hj).1]; exact hj)
  · have hr0 := At.rows_range (k := 0) H
    have h1 := append_grow t t2 ty e i z ht ht2 hi hz (olds := xs) (w := w) hx (by omega) (by omega) (growslice_fits (by omega) hbytes) (fun wx hw => run_firstCells_some wx i.size n ⟨g, off, none⟩ n cap xs hxl (fun j u h => by
      rw [Addr.add_lit]
      have := hr0 j u h
      unfold World.cell? at this ⊢
      rw [hw]
      exact this))
    rw [hr] at h1
    cases h1
    have H3 := H.drew.alloc (.cells (xs.toArray ++ news.toArray ++ Builtin.zeroCells z.cells (grownCap w (n + m) cap e - (n + m))) e)
    exact At.rows_range (k := 0) (H3.pull 1 rfl)
end
section
variable {α : Type} {P : Program} {e : TypeId} {size by_ : Nat} {c : α → List Value} {w w0 : World} {L : List SP}
variable {o : Oper} {a : Act} {K : Act → World → Prop} {Q : Exit → Act → World → Prop}
/-- One is appended; what there was stands where it stood, too. -/
theorem wp_lapp_one_keep (E : El P e size by_ c) (t : TypeId) (ht : P.underlying t = some (.slice e)) (s xo : Operand) (ho : o.op = .call { callee := .builtin .append, args := #[s, xo], argTypes := #[t, t] }) {g off m cap : Nat} {xs : List α} {y : α} (hm : m = xs.length) (hs : a.eval s = .slice (some ⟨g, off, none⟩) m cap)
    (H : At w0 (lrow e size c (.slice (some ⟨g, off, none⟩) m cap) xs :: L) w) {C : Nat} (hxo : a.eval xo = .slice (some ⟨C, 0, none⟩) 1 1) (k : Nat) {cs : Array Value} (hk : L[k]? = some (raw C cs e)) (hy : cs.toList = c y) (h63 : xs.length + 1 ≤ maxLen) (hb : (xs.length + 1) * by_ ≤ 140737488355328)
    (h : ∀ b q w', At w0 (lrow e size c (.slice b (m + 1) q) (xs ++ [y]) :: L) w' → w'.rangeAt g off (cl c xs) → K (a.put o.dst (.slice b (m + 1) q)) w') : OWp P o a w K Q := by
  subst hm
  obtain ⟨z, hi, hzs⟩ := E.info
  obtain ⟨i, hi, hz, hsz, hby⟩ := info_of hi
  have hx : Src P size w (.slice (some ⟨C, 0, none⟩) 1 1) 1 (cl c [y]) := by
    have hc := H.heap (k + 1) (by simpa using hk)
    have hl := E.len y
    refine Src.some (by simp [cl, hl]) (fun j u hj => ?_) (E.one_cl _)
    rw [Addr.add_lit, raw_cell hc, Nat.zero_add, ← Array.getElem?_toList, hy]
    simpa [cl] using hj
  unfold lrow at H h
  obtain ⟨v', w', hr, h2, h3⟩ := run_append_keep H t t o.type i z by_ ht (.inl ⟨_, ht⟩) hi hz hsz hby hzs hx h63 hb
  obtain ⟨b, q, rfl⟩ := At.rows_slice h2
  rw [← cl_append] at h2
  have h4 := h b q w' (by rw [List.length_append]; exact h2) h3
  refine owp ?_
  unfold Oper.wp execOp
  simp only [ho, resolve, invoke, builtin, Sem.run_bind, Sem.run_pure, Result.andThen_ok, List.map_toArray, List.map_cons, List.map_nil, hs, hxo, hr]
  exact h4
end
end Go.Hg
