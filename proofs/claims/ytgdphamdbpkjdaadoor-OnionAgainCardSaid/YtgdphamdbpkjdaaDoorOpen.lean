/-
  Arguments of flat types that came in: arrays of bytes, packets, hops. No program in sight.
-/
import Derived.Test.YtgdphamdbpkjdaaDoorOnionL
import Derived.Test.YtgdphamdbpkjdaaDoorFrame
import Derived.Lib.LaidTab
namespace Go.Hg
open Go.ChangeShapes Go.WideShapes Go.ChangeAt Go.RowKit
set_option linter.unusedVariables false
theorem fits_parts {ks : List LK} {m : Nat} : ∀ (n : Nat) (cs : List Value), cs.length = n * m → (∀ i, i < n → fits ks ((cs.drop (i * m)).take m)) → fits (List.replicate n ks).flatten cs
  | 0, cs, h, _ => by
    have : cs = [] := List.eq_nil_of_length_eq_zero (by simpa using h)
    subst this
    simp [fits]
  | n + 1, cs, h, hp => by
    rw [Nat.add_mul, Nat.one_mul] at h
    have h0 := hp 0 (by omega)
    rw [Nat.zero_mul, List.drop_zero] at h0
    have ih := fits_parts (ks := ks) (m := m) n (cs.drop m) (by rw [List.length_drop]; omega) fun i hi => by
      have := hp (i + 1) (by omega)
      rw [Nat.add_mul, Nat.one_mul, Nat.add_comm] at this
      rw [List.drop_drop]
      exact this
    have := fits_append h0 ih
    rw [List.take_append_drop] at this
    rw [List.replicate_succ, List.flatten_cons]
    exact this
theorem fits_fields {P : Program} {g : TypeId → Option (List LK)} {cs : List Value} : ∀ (fs : List Field) (off : Nat) (ks : List LK), flatFs P g off fs = some ks → (∀ f ∈ fs, ∀ kf, g f.type = some kf → fits kf ((cs.drop f.offset).take (P.cellsOf f.type))) → cs.length = off + ks.length → fits ks (cs.drop off)
  | [], off, ks, h, _, hl => by
    unfold flatFs at h
    cases h
    have : cs.drop off = [] := List.drop_eq_nil_of_le (by simpa using Nat.le_of_eq hl)
    rw [this]
    simp [fits]
  | f :: fs, off, ks, h, hp, hl => by
    unfold flatFs at h
    split at h
    · rename_i hc
      obtain ⟨_, hoff⟩ := hc
      cases hg : g f.type with
      | none => rw [hg] at h; cases h
      | some kf =>
        rw [hg] at h
        simp only [Option.bind_some] at h
        split at h
        · rename_i hcl
          obtain ⟨kr, hr, rfl⟩ := Option.map_eq_some_iff.1 h
          have h1 := hp f List.mem_cons_self kf hg
          rw [hoff, hcl] at h1
          have ih := fits_fields fs (off + kf.length) kr hr (fun f' hf' => hp f' (List.mem_cons_of_mem _ hf')) (by rw [hl, List.length_append]; omega)
          rw [← List.drop_drop] at ih
          have := fits_append h1 ih
          rwa [List.take_append_drop] at this
        · cases h
    · cases h
theorem fits_of_trod {H : Type} {enc : TypeId × Value → H} {P : Program} {w : World} {base : Nat} {sp : Nat → Bool} {held : Bool} : ∀ (d : Nat) (t : TypeId) (ks : List LK) (cs : List Value) (fuel : Nat) (x : DataW H × List MemPlace), flatK P d t = some ks → DataW.trod enc P w base sp held fuel t cs = some x → fits ks cs
  | 0, _, _, _, _, _, h, _ => by cases h
  | d + 1, t, ks, cs, 0, x, _, hx => by simp [DataW.trod] at hx
  | d + 1, t, ks, cs, fuel + 1, x, h, hx => by
    unfold flatK at h
    cases hu : P.underlying t with
    | none => rw [hu] at h; cases h
    | some u =>
      rw [hu] at h
      cases u <;> try (cases h; done)
      case bool =>
        cases h
        simp only [DataW.trod, hu] at hx
        split at hx <;> simp_all [fits, fit1]
      case int q =>
        cases h
        obtain ⟨z, rfl, _, hw⟩ := DataW.trod_int hu hx
        exact ⟨⟨rfl, hw⟩, trivial⟩
      case array n e =>
        simp only at h
        cases hk : flatK P d e with
        | none => rw [hk] at h; cases h
        | some ke =>
          rw [hk] at h
          simp only [Option.bind_some] at h
          split at h
          · rename_i hc
            cases h
            simp only [DataW.trod, hu] at hx
            split at hx
            · rename_i hl
              obtain ⟨xs, hm, _⟩ := Option.map_eq_some_iff.1 hx
              refine fits_parts (m := ke.length) n cs (by rw [hl, hc.2]) fun i hi => ?_
              obtain ⟨b, _, hb⟩ := Lib.mapM_at hm i i (by simp [hi])
              rw [hc.1] at hb
              exact fits_of_trod d e ke _ fuel b hk hb
            · cases hx
          · cases h
      case struct fs =>
        simp only at h
        cases hk : flatFs P (flatK P d) 0 fs.toList with
        | none => rw [hk] at h; cases h
        | some ke =>
          rw [hk] at h
          simp only [Option.bind_some] at h
          split at h
          · rename_i hc
            cases h
            simp only [DataW.trod, hu] at hx
            split at hx
            · rename_i hl
              obtain ⟨xs, hm, _⟩ := Option.map_eq_some_iff.1 hx
              have := fits_fields (P := P) (g := flatK P d) (cs := cs) fs.toList 0 ks hk (fun f hf kf hg => by
                obtain ⟨i, hi⟩ := List.getElem?_of_mem hf
                obtain ⟨b, _, hb⟩ := Lib.mapM_at hm i f hi
                exact fits_of_trod d f.type kf _ fuel b hg hb) (by rw [hl, hc, Nat.zero_add])
              simpa using this
            · cases hx
          · cases h
/-! ### What they are -/
theorem nat_of_wf {k : IntKind} {z : Int} {N : Nat} (h : (Lit.int k z).wf = true) (h0 : k.min = 0) (h1 : k.max = (N : Int) - 1) : ∃ n : Nat, n < N ∧ z = (n : Int) := by
  simp [Lit.wf, h0, h1] at h
  exact ⟨z.toNat, by omega, by omega⟩
theorem fits_cons_u {k : IntKind} {ks : List LK} {cs : List Value} {N : Nat} (h : fits (.i k :: ks) cs) (h0 : k.min = 0) (h1 : k.max = (N : Int) - 1) : ∃ (n : Nat) (cs' : List Value), n < N ∧ cs = .int k (n : Int) :: cs' ∧ fits ks cs' := by
  cases cs with
  | nil => exact h.elim
  | cons v cs =>
    obtain ⟨hv, h⟩ := h
    cases v <;> try exact hv.elim
    case int q z =>
      obtain ⟨rfl, hw⟩ := hv
      obtain ⟨n, hn, rfl⟩ := nat_of_wf hw h0 h1
      exact ⟨n, cs, hn, rfl, h⟩
theorem fits_split : ∀ {ka kb : List LK} {cs : List Value}, fits (ka ++ kb) cs → ∃ xs ys, cs = xs ++ ys ∧ fits ka xs ∧ fits kb ys
  | [], _, cs, h => ⟨[], cs, rfl, trivial, h⟩
  | k :: ka, _, [], h => h.elim
  | k :: ka, _, c :: cs, h => by
    obtain ⟨xs, ys, rfl, h1, h2⟩ := fits_split h.2
    exact ⟨c :: xs, ys, rfl, ⟨h.1, h1⟩, h2⟩
theorem bytes_of_fits : ∀ {n : Nat} {cs : List Value}, fits (List.replicate n (.i .u8)) cs → ∃ bs : List (BitVec 8), bs.length = n ∧ cs = v8 bs
  | 0, [], _ => ⟨[], rfl, rfl⟩
  | 0, _ :: _, h => h.elim
  | n + 1, cs, h => by
    rw [List.replicate_succ] at h
    obtain ⟨m, cs', hm, rfl, h'⟩ := fits_cons_u (N := 256) h rfl rfl
    obtain ⟨bs, hb, rfl⟩ := bytes_of_fits h'
    refine ⟨BitVec.ofNat 8 m :: bs, by simp [hb], ?_⟩
    unfold v8
    rw [List.map_cons]
    congr 2
    unfold iv
    rw [BitVec.toNat_ofNat]
    omega
theorem pkt_of_fits {cs : List Value} (h : fits PktD.kinds cs) : ∃ p : PktD, p.ok ∧ cs = p.cells := by
  unfold PktD.kinds at h
  obtain ⟨x0, y0, rfl, h0, h⟩ := fits_split h
  obtain ⟨x1, y1, rfl, h1, h⟩ := fits_split h
  obtain ⟨x2, y2, rfl, h2, h⟩ := fits_split h
  obtain ⟨x3, x4, rfl, h3, h4⟩ := fits_split h
  obtain ⟨who, c0, hw, rfl, ha⟩ := fits_cons_u (N := 65536) h0 rfl rfl
  obtain ⟨epoch, c1, he, rfl, hb⟩ := fits_cons_u (N := 4294967296) ha rfl rfl
  obtain ⟨b1, l1, rfl⟩ := bytes_of_fits h1
  obtain ⟨b2, l2, rfl⟩ := bytes_of_fits h2
  obtain ⟨b3, l3, rfl⟩ := bytes_of_fits h3
  obtain ⟨b4, l4, rfl⟩ := bytes_of_fits h4
  cases c1 with
  | cons _ _ => exact hb.elim
  | nil => exact ⟨⟨who, epoch, b1, b2, b3, b4⟩, ⟨hw, he, l1, l2, l3, l4⟩, rfl⟩
theorem hop_of_fits {cs : List Value} (h : fits HopD.kinds cs) : ∃ p : HopD, p.ok ∧ cs = p.cells := by
  unfold HopD.kinds at h
  obtain ⟨x0, y0, rfl, h0, h⟩ := fits_split h
  obtain ⟨x1, y1, rfl, h1, h⟩ := fits_split h
  obtain ⟨x2, y2, rfl, h2, h⟩ := fits_split h
  obtain ⟨x3, x4, rfl, h3, h4⟩ := fits_split h
  obtain ⟨a, c0, ha, rfl, g0⟩ := fits_cons_u (N := 65536) h0 rfl rfl
  obtain ⟨w, c1, hw, rfl, g1⟩ := fits_cons_u (N := 65536) g0 rfl rfl
  obtain ⟨k, lk, rfl⟩ := bytes_of_fits h1
  obtain ⟨e, c2, he, rfl, g2⟩ := fits_cons_u (N := 4294967296) h2 rfl rfl
  obtain ⟨n, ln, rfl⟩ := bytes_of_fits h3
  obtain ⟨lo, c3, hlo, rfl, g3⟩ := fits_cons_u (N := 18446744073709551616) h4 rfl rfl
  obtain ⟨hi, c4, hhi, rfl, g4⟩ := fits_cons_u (N := 18446744073709551616) g3 rfl rfl
  obtain ⟨dl, c5, hdl, rfl, g5⟩ := fits_cons_u (N := 4294967296) g4 rfl rfl
  cases c1 with
  | cons _ _ => exact g1.elim
  | nil => cases c2 with
    | cons _ _ => exact g2.elim
    | nil => cases c5 with
      | cons _ _ => exact g5.elim
      | nil => exact ⟨⟨a, w, k, e, n, lo, hi, dl⟩, ⟨ha, hw, lk, he, ln, hlo, hhi, hdl⟩, rfl⟩
section
variable {H : Type} {enc : TypeId × Value → H} {P : Program} {w : World} {base : Nat} {sp : Nat → Bool} {held : Bool} {t : TypeId} {v : Value} {d : DataW H} {ps : List MemPlace}
theorem okWide_array {n : Nat} {e : TypeId} {r : Nat} (hu : P.underlying t = some (.array n e)) (h : Value.okWide P w .any r t v) : ∃ cs, v = .agg cs := by
  simp only [Value.okWide, hu] at h
  obtain ⟨cs, h1, _⟩ := h
  exact ⟨cs, h1⟩
theorem open_bytes {n e b2 : Nat} (hk : flatK P 4 t = some (List.replicate n (.i .u8))) (hu : P.underlying t = some (.array n e)) (hv : Value.okWide P w .any b2 t v) (h : DataW.Trod enc P w base sp held t v d ps) : ∃ bs : List (BitVec 8), bs.length = n ∧ v = .agg (v8 bs).toArray := by
  obtain ⟨cs, rfl⟩ := okWide_array hu hv
  obtain ⟨fuel, hf⟩ := h
  obtain ⟨bs, hl, he⟩ := bytes_of_fits (fits_of_trod _ _ _ _ _ _ hk hf)
  exact ⟨bs, hl, by rw [← he]; rfl⟩
theorem open_pkt {b2 : Nat} {fs : Array Field} (hk : flatK P 6 t = some PktD.kinds) (hu : P.underlying t = some (.struct fs)) (hv : Value.okWide P w .any b2 t v) (h : DataW.Trod enc P w base sp held t v d ps) : ∃ p : PktD, p.ok ∧ v = .agg p.cells.toArray := by
  obtain ⟨cs, rfl, _⟩ := okWide_struct hu hv
  obtain ⟨fuel, hf⟩ := h
  obtain ⟨p, hp, he⟩ := pkt_of_fits (fits_of_trod _ _ _ _ _ _ hk hf)
  exact ⟨p, hp, by rw [← he]; rfl⟩
theorem map_pick {α β : Type} {R : α → β → Prop} : ∀ (n : Nat) (f : Nat → α), (∀ i, i < n → ∃ b, R (f i) b) → ∃ bs : List β, bs.length = n ∧ ∀ i b, bs[i]? = some b → R (f i) b
  | 0, _, _ => ⟨[], rfl, fun i b h => by simp at h⟩
  | n + 1, f, h => by
    obtain ⟨b0, h0⟩ := h 0 (by omega)
    obtain ⟨bs, hl, hb⟩ := map_pick n (fun i => f (i + 1)) fun i hi => h (i + 1) (by omega)
    refine ⟨b0 :: bs, by simp [hl], fun i b hi => ?_⟩
    cases i with
    | zero => cases hi; exact h0
    | succ i => exact hb i b hi
theorem range_elems {w : World} {b : Nat} : ∀ (hops : List HopO) (off : Nat), (∀ (i : Nat) (x : HopO), hops[i]? = some x → w.rangeAt b (off + i * 54) (hopC x)) → w.rangeAt b off (cl hopC hops)
  | [], _, _ => fun j v h => by simp [cl] at h
  | x :: xs, off, h => fun j v hj => by
    have hl : (hopC x).length = 54 := HopD.cells_length x.2.key x.2.nonce
    have hj : (hopC x ++ cl hopC xs)[j]? = some v := hj
    by_cases hlt : j < 54
    · rw [List.getElem?_append_left (by omega)] at hj
      have := h 0 x rfl j v hj
      simpa using this
    · rw [List.getElem?_append_right (by omega), hl] at hj
      have := range_elems xs (off + 54) (fun i y hy => by
        have := h (i + 1) y (by simpa using hy)
        rw [show off + 54 + i * 54 = off + (i + 1) * 54 by omega]
        exact this) (j - 54) v hj
      rwa [show off + 54 + (j - 54) = off + j by omega] at this
/-- Hops that came in. -/
theorem open_hops {e b2 : Nat} (hk : flatK P 6 e = some HopD.kinds) (hu : P.underlying t = some (.slice e)) (hc : P.cellsOf e = 54) (hv : Value.okWide P w .any b2 t v) (h : DataW.Trod enc P w base sp held t v d ps) : ∃ hops : List HopO, SeeL 54 hopC w [] v hops := by
  obtain ⟨a, len, cap, rfl⟩ := okWide_slice hu hv
  obtain ⟨hlen, b, off, hrow⟩ := slice_row hu (by rw [hc]; omega) h
  rw [hc] at hrow
  have hsp : ∃ b off, len ≤ cap ∧ (a = none → len = 0 ∧ cap = 0) ∧ ∀ x, a = some x → x = ⟨b, off, none⟩ := by
    simp only [Value.okWide, hu, Cell.okWide] at hv
    cases a with
    | none =>
      cases len <;> cases cap <;> simp [Cell.ok, hu] at hv
      exact ⟨0, 0, Nat.le_refl _, fun _ => ⟨rfl, rfl⟩, fun x e => by cases e⟩
    | some y =>
      simp only [Cell.ok, hu] at hv
      obtain ⟨h1, _, _, h2, _⟩ := hv
      obtain ⟨yb, yo, ys⟩ := y
      cases h2
      exact ⟨yb, yo, h1, (fun e => by cases e), fun x e => by cases e; rfl⟩
  obtain ⟨b', off', hle, hnil, hat⟩ := hsp
  have hpick : ∀ i, i < len → ∃ x : HopO, w.rangeAt b' (off' + i * 54) (hopC x) := fun i hi => by
    obtain ⟨rfl, cs, n, x, hcl, hcell, htr⟩ := hrow i hi
    have e := hat _ rfl
    cases e
    obtain ⟨p, hp, rfl⟩ := hop_of_fits (fits_of_trod _ _ _ _ _ _ hk htr)
    refine ⟨⟨p, hp⟩, fun j v hj => ?_⟩
    have hlt := (List.getElem?_eq_some_iff.1 hj).1
    rw [hcell j (by rw [← hcl]; exact hlt)]
    exact hj
  obtain ⟨hops, hl, hh⟩ := map_pick (R := fun (i : Nat) (x : HopO) => w.rangeAt b' (off' + i * 54) (hopC x)) len id hpick
  refine ⟨hops, a, cap, b', off', by rw [hl], by omega, fun h0 => ?_, ⟨fun e => (hnil e).2, hat⟩, fun w' H => ?_⟩
  · cases a with
    | none => have := (hnil rfl).1; omega
    | some y => rw [hat y rfl]
  · intro j v hj
    have h9 := range_elems hops off' (fun i x hx => hh i x hx) j v hj
    exact (H.below.cell (World.block_lt_of_cell? w _ h9)).trans h9
end
end Go.Hg
