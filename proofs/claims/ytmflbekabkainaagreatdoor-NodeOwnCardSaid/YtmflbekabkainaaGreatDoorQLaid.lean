import Derived.Test.YtmflbekabkainaaGreatDoorQGlob
import Derived.Test.YtmflbekabkainaaGreatDoorRows
import Derived.Lib.LaidTab
set_option linter.unusedVariables false
namespace Go.Hg
open Go.RowKit
theorem laid_mem {P : Program} {W : World} : ∀ {laid : List (String × DataW Unit)} {ps : List MemPlace}, DataW.LaidVars P W laid ps → ∀ {n : String} {d : DataW Unit}, (n, d) ∈ laid →
    ∃ g t cs fuel p, P.globalNamed n = some g ∧ (P.globals[g]?).map (·.type) = some t ∧ W.var? P n = some cs ∧ DataW.trod (fun _ => ()) P W 0 (fun _ => true) false fuel t cs.toList = some (d, p)
 | [], _, _, _, _, hm => by cases hm
 | (n', d') :: r, ps, h, n, d, hm => by
  obtain ⟨g, t, cs, fuel, p, q, h1, h2, h3, h4, h5, _⟩ := h
  rcases List.mem_cons.1 hm with e | hm
  · cases e
    exact ⟨g, t, cs, fuel, p, h1, h2, h3, h4⟩
  · exact laid_mem h5 hm
theorem flat_of_parts {f : Int → Value} {m : Nat} : ∀ (zss : List (List Int)) (cs : List Value), cs.length = zss.length * m → (∀ (i : Nat) zs, zss[i]? = some zs → (cs.drop (i * m)).take m = zs.map f) → cs = zss.flatten.map f
 | [], cs, hl, _ => by simpa using hl
 | zs :: zss, cs, hl, h => by
  rw [List.length_cons, Nat.add_mul, Nat.one_mul] at hl
  have h0 := h 0 zs rfl
  rw [Nat.zero_mul, List.drop_zero] at h0
  have ih := flat_of_parts (f := f) (m := m) zss (cs.drop m) (by rw [List.length_drop]; omega) fun i zs' hz => by
   have := h (i + 1) zs' hz
   rw [List.drop_drop]
   rw [Nat.add_mul, Nat.one_mul, Nat.add_comm] at this
   exact this
  rw [List.flatten_cons, List.map_append, ← h0, ← ih, List.take_append_drop]
theorem cells_of_tab2 {H : Type} {enc : TypeId × Value → H} {P : Program} {w : World} {base : Nat} {sp : Nat → Bool} {held : Bool} {fuel : Nat} {t e i : TypeId} {n m : Nat} {k : IntKind} {cs : List Value} {zss : List (List Int)} {p : List MemPlace}
    (ht : P.underlying t = some (.array n e)) (he : P.underlying e = some (.array m i)) (hi : P.underlying i = some (.int k)) (hci : P.cellsOf i = 1) (hce : P.cellsOf e = m) (hct : P.cellsOf t = n * m)
    (h : DataW.trod enc P w base sp held fuel t cs = some (.agg (zss.map (Lib.tabData k)), p)) : cs = zss.flatten.map fun z => Value.int k z := by
 cases fuel with
 | zero => simp [DataW.trod] at h
 | succ fuel =>
  simp only [DataW.trod, ht, hce, hct] at h
  split at h
  · rename_i hl
    obtain ⟨xs, hm, hx⟩ := Option.map_eq_some_iff.1 h
    have hxs : xs.map (·.1) = zss.map (Lib.tabData k) := by
     have := congrArg Prod.fst hx
     simpa using this
    have hxl : xs.length = n := by simpa using Lib.mapM_length hm
    have hzl : zss.length = n := by
     have := congrArg List.length hxs
     simp at this
     omega
    refine flat_of_parts zss cs (by rw [hl, hzl]) fun j zs hz => ?_
    have hj : j < n := by rw [← hzl]; exact (List.getElem?_eq_some_iff.1 hz).1
    obtain ⟨b, hb, hf⟩ := Lib.mapM_at hm j j (by simp [hj])
    have h2 : (xs.map (·.1))[j]? = some (Lib.tabData k zs : DataW H) := by rw [hxs, List.getElem?_map, hz]; rfl
    have h3 : b.1 = Lib.tabData k zs := by
     rw [List.getElem?_map, hb] at h2
     exact Option.some.inj h2
    obtain ⟨b1, b2⟩ := b
    cases h3
    exact Lib.cells_of_tab he hi hci hce hf
  · cases h
theorem range_of_var {P : Program} {W : World} {n : String} {g : Nat} {cs : Array Value} {l : List Value} (hg : P.globalNamed n = some g) (h : W.var? P n = some cs) (hl : cs.toList = l) : W.rangeAt g 0 l := fun j v hj => by
 rw [Nat.zero_add, World.var?_cell hg h j, ← Array.getElem?_toList, hl]
 exact hj
end Go.Hg
namespace Go.Proofs.YtmflbekabkainaaGreatDoor
open Go.RowKit Go.Hg
abbrev laid5 : List (String × DataW Unit) := [("hourglass/sha.first", Rows.laid_hourglass_sha_first), ("hourglass/sha.steady", Rows.laid_hourglass_sha_steady), ("hourglass/chacha.begins", Rows.laid_hourglass_chacha_begins), ("hourglass/chacha.quarters", Rows.laid_hourglass_chacha_quarters), ("hourglass/chacha.turns", Rows.laid_hourglass_chacha_turns)]
theorem laid_first {W : World} {ps : List MemPlace} (h : DataW.LaidVars Tryz.prog W laid5 ps) : W.rangeAt 3 0 (v32 H0) := by
 obtain ⟨g, t, cs, fuel, p, h1, h2, h3, h4⟩ := laid_mem h (n := "hourglass/sha.first") (d := Rows.laid_hourglass_sha_first) (by simp [laid5])
 obtain rfl : g = 3 := (Option.some.inj ((show Tryz.prog.globalNamed "hourglass/sha.first" = some 3 by kernel_rfl).symm.trans h1)).symm
 obtain rfl : t = 252 := (Option.some.inj ((show (Tryz.prog.globals[3]?).map (·.type) = some 252 by kernel_rfl).symm.trans h2)).symm
 refine range_of_var h1 h3 ?_
 exact Lib.cells_of_tab (k := .u32) (zs := (v32 H0).map intOf) (n := 8) (e := 36) (by kernel_rfl) (by kernel_rfl) (by kernel_rfl) (by kernel_rfl) (h4 : _ = some (Lib.tabData .u32 ((v32 H0).map intOf), p))
theorem laid_steady {W : World} {ps : List MemPlace} (h : DataW.LaidVars Tryz.prog W laid5 ps) : W.rangeAt 4 0 (v32 K0) := by
 obtain ⟨g, t, cs, fuel, p, h1, h2, h3, h4⟩ := laid_mem h (n := "hourglass/sha.steady") (d := Rows.laid_hourglass_sha_steady) (by simp [laid5])
 obtain rfl : g = 4 := (Option.some.inj ((show Tryz.prog.globalNamed "hourglass/sha.steady" = some 4 by kernel_rfl).symm.trans h1)).symm
 obtain rfl : t = 280 := (Option.some.inj ((show (Tryz.prog.globals[4]?).map (·.type) = some 280 by kernel_rfl).symm.trans h2)).symm
 refine range_of_var h1 h3 ?_
 exact Lib.cells_of_tab (k := .u32) (zs := (v32 K0).map intOf) (n := 64) (e := 36) (by kernel_rfl) (by kernel_rfl) (by kernel_rfl) (by kernel_rfl) (h4 : _ = some (Lib.tabData .u32 ((v32 K0).map intOf), p))
theorem laid_begins {W : World} {ps : List MemPlace} (h : DataW.LaidVars Tryz.prog W laid5 ps) : W.rangeAt 0 0 (v32 sigma) := by
 obtain ⟨g, t, cs, fuel, p, h1, h2, h3, h4⟩ := laid_mem h (n := "hourglass/chacha.begins") (d := Rows.laid_hourglass_chacha_begins) (by simp [laid5])
 obtain rfl : g = 0 := (Option.some.inj ((show Tryz.prog.globalNamed "hourglass/chacha.begins" = some 0 by kernel_rfl).symm.trans h1)).symm
 obtain rfl : t = 261 := (Option.some.inj ((show (Tryz.prog.globals[0]?).map (·.type) = some 261 by kernel_rfl).symm.trans h2)).symm
 refine range_of_var h1 h3 ?_
 exact Lib.cells_of_tab (k := .u32) (zs := (v32 sigma).map intOf) (n := 4) (e := 36) (by kernel_rfl) (by kernel_rfl) (by kernel_rfl) (by kernel_rfl) (h4 : _ = some (Lib.tabData .u32 ((v32 sigma).map intOf), p))
theorem laid_quarters {W : World} {ps : List MemPlace} (h : DataW.LaidVars Tryz.prog W laid5 ps) : W.rangeAt 1 0 ((quartersZ).map (Value.int .i64)) := by
 obtain ⟨g, t, cs, fuel, p, h1, h2, h3, h4⟩ := laid_mem h (n := "hourglass/chacha.quarters") (d := Rows.laid_hourglass_chacha_quarters) (by simp [laid5])
 obtain rfl : g = 1 := (Option.some.inj ((show Tryz.prog.globalNamed "hourglass/chacha.quarters" = some 1 by kernel_rfl).symm.trans h1)).symm
 obtain rfl : t = 264 := (Option.some.inj ((show (Tryz.prog.globals[1]?).map (·.type) = some 264 by kernel_rfl).symm.trans h2)).symm
 refine range_of_var h1 h3 ?_
 exact cells_of_tab2 (k := .i64) (zss := [[0, 4, 8, 12], [1, 5, 9, 13], [2, 6, 10, 14], [3, 7, 11, 15], [0, 5, 10, 15], [1, 6, 11, 12], [2, 7, 8, 13], [3, 4, 9, 14]]) (n := 8) (m := 4) (e := 263) (i := 3) (by kernel_rfl) (by kernel_rfl) (by kernel_rfl) (by kernel_rfl) (by kernel_rfl) (by kernel_rfl) h4
theorem laid_turns {W : World} {ps : List MemPlace} (h : DataW.LaidVars Tryz.prog W laid5 ps) : W.rangeAt 2 0 ((turnsZ).map (Value.int .i64)) := by
 obtain ⟨g, t, cs, fuel, p, h1, h2, h3, h4⟩ := laid_mem h (n := "hourglass/chacha.turns") (d := Rows.laid_hourglass_chacha_turns) (by simp [laid5])
 obtain rfl : g = 2 := (Option.some.inj ((show Tryz.prog.globalNamed "hourglass/chacha.turns" = some 2 by kernel_rfl).symm.trans h1)).symm
 obtain rfl : t = 277 := (Option.some.inj ((show (Tryz.prog.globals[2]?).map (·.type) = some 277 by kernel_rfl).symm.trans h2)).symm
 refine range_of_var h1 h3 ?_
 exact cells_of_tab2 (k := .i64) (zss := [[16, 12], [8, 7]]) (n := 2) (m := 2) (e := 205) (i := 3) (by kernel_rfl) (by kernel_rfl) (by kernel_rfl) (by kernel_rfl) (by kernel_rfl) (by kernel_rfl) h4
theorem glob_of_laid {W : World} (h : laidMetH Tryz.prog laid5 W) : Glob W := by
 have h : laidMet Tryz.prog laid5 W := h
 obtain ⟨ps, hv, _⟩ := h
 exact ⟨laid_first hv, laid_steady hv, laid_begins hv, laid_quarters hv, laid_turns hv⟩
end Go.Proofs.YtmflbekabkainaaGreatDoor
