/-
  What the laws of the skew share: a slice of pairs that came in; a new skew; what must be in any case.
-/
import Derived.Test.YthhmgodnmgmjdaaRows
import Derived.Test.YthhmgodnmgmjdaaNth14
import Derived.Test.YthhmgodnmgmjdaaFrame
namespace Go.Proofs.Ythhmgodnmgmjdaa
open Go.ChangeShapes Go.WideShapes Go.ChangeAt Go.RowKit Go.Hg Go.Shelf
set_option linter.unusedSimpArgs false
set_option linter.unusedVariables false
def PairRow (w : World) (a : Option Addr) (len cap : Nat) : Prop :=
  (len : Int) ≤ 9223372036854775807 ∧ len ≤ cap ∧ ∃ (b off : Nat) (f g : Nat → Int), ∀ i : Nat, i < len → a = some ⟨b, off, none⟩ ∧ b < w.heap.size ∧ w.cell? ⟨b, off + i * 2, none⟩ = some (.int .u64 (f i)) ∧ w.cell? ⟨b, off + i * 2 + 1, none⟩ = some (.int .u64 (g i)) ∧
    0 ≤ f i ∧ f i ≤ 18446744073709551615 ∧ 0 ≤ g i ∧ g i ≤ 18446744073709551615
section
variable {H : Type} {enc : TypeId × Value → H} {w : World} {base base2 : Nat} {spare : Nat → Bool} {held : Bool}
theorem open_pairs {v : Value} {d : DataW H} {p : List MemPlace} (hv : Value.okWide Try.prog w .any base2 22 v) (h : DataW.Trod enc Try.prog w base spare held 22 v d p) :
    ∃ a len cap, PairRow w a len cap ∧ v = .slice a len cap := by
  obtain ⟨a, len, cap, rfl⟩ := okWide_slice Try.underlying22 hv
  refine ⟨a, len, cap, ?_, rfl⟩
  have hcap : len ≤ cap := by
    obtain ⟨fuel, hf⟩ := h
    rcases DataW.trod_slice Try.underlying22 hf with ⟨hcs, _⟩ | ⟨a', len', cap', _, _, _, _, hcs, _, _, hl, _⟩
    · simp [Value.cells] at hcs
      omega
    · simp [Value.cells] at hcs
      omega
  obtain ⟨h1, b, off, h2⟩ := slice_row Try.underlying22 (by rw [show Try.prog.cellsOf 35 = 2 from by kernel_rfl]; omega) h
  have h3 : ∀ i : Nat, ∃ fg : Int × Int, i < len → a = some ⟨b, off, none⟩ ∧ b < w.heap.size ∧ w.cell? ⟨b, off + i * 2, none⟩ = some (.int .u64 fg.1) ∧ w.cell? ⟨b, off + i * 2 + 1, none⟩ = some (.int .u64 fg.2) ∧ 0 ≤ fg.1 ∧ fg.1 ≤ 18446744073709551615 ∧ 0 ≤ fg.2 ∧ fg.2 ≤ 18446744073709551615 := fun i => by
    by_cases hi : i < len
    · obtain ⟨ha, cs, m, x, hl, hc, ht⟩ := h2 i hi
      have e4 : Try.prog.cellsOf 35 = 2 := by kernel_rfl
      rw [e4] at hl hc
      obtain ⟨xs, m', _, _, _, hxl, hf⟩ := DataW.trod_struct Try.underlying35 ht
      match cs, hl with
      | [c0, c1], _ =>
        have g : ∀ j, j < 2 → ∃ y, xs[j]? = some y := fun j hj => ⟨_, List.getElem?_eq_getElem (by rw [hxl]; exact hj)⟩
        obtain ⟨y0, q0⟩ := g 0 (by omega)
        obtain ⟨y1, q1⟩ := g 1 (by omega)
        have f0 := (hf 0 _ rfl).trans q0
        have f1 := (hf 1 _ rfl).trans q1
        obtain ⟨k, e0, _, wk⟩ := DataW.trod_int Try.underlying33 f0
        obtain ⟨r, e1, _, wr⟩ := DataW.trod_int Try.underlying33 f1
        have c1e : Try.prog.cellsOf 33 = 1 := by kernel_rfl
        simp [c1e] at e0 e1
        subst e0 e1
        have hb := bounds_u64 wk
        have hb2 := bounds_u64 wr
        have g0 := hc 0 (by omega)
        have g1 := hc 1 (by omega)
        refine ⟨(k, r), fun _ => ⟨ha, World.block_lt_of_cell? w _ g0, g0, g1, hb.1, by omega, hb2.1, by omega⟩⟩
    · exact ⟨(0, 0), fun h => absurd h hi⟩
  obtain ⟨F, hF⟩ := Classical.axiomOfChoice h3
  exact ⟨h1, hcap, b, off, fun i => (F i).1, fun i => (F i).2, hF⟩
end
theorem skw_new {w0 w : World} {F : List SP} {p : Nat} (H : At w0 (raw p (skC (List.replicate 16 0) 0) 27 :: F) w) : At w0 (skw p [] :: F) w :=
  At.mk_ex (F := fun x : { L : List Int // Ring L [] } => skew p x.1 ((([] : List Int).length : Nat) : Int)) ⟨_, Ring.nil⟩ H
def lo (D : List Int) : Int := gz (srt (last D)) 0
def hi (D : List Int) : Int := gz (srt (last D)) ((last D).length - 1)
def mid (D : List Int) : Int := gz (srt (last D)) (((last D).length - 1) / 2)
def has (D : List Int) : Bool := decide (0 < D.length)
def len (D : List Int) : Nat := (last D).length
theorem bd_c {w0 w : World} {F : List SP} {p : Nat} {D : List Int} (H : At w0 (skw p D :: F) w) :
    Calls Try.prog 16 #[.pointer (some ⟨p, 0, none⟩)] w fun e w' => e = .returned (.tuple #[.int .i64 (lo D), .int .i64 (hi D), .bool (has D)]) ∧ At w0 (skw p D :: F) w' := bound_c H
theorem md_c {w0 w : World} {F : List SP} {p : Nat} {D : List Int} (H : At w0 (skw p D :: F) w) :
    Calls Try.prog 17 #[.pointer (some ⟨p, 0, none⟩)] w fun e w' => e = .returned (.tuple #[.int .i64 (mid D), .bool (has D)]) ∧ At w0 (skw p D :: F) w' := middle_c H
theorem ln_c {w0 w : World} {F : List SP} {p : Nat} {D : List Int} (H : At w0 (skw p D :: F) w) :
    Calls Try.prog 15 #[.pointer (some ⟨p, 0, none⟩)] w fun e w' => e = .returned (.int .i64 (len D)) ∧ At w0 (skw p D :: F) w' := length_c H
/-- One is added that is told. -/
theorem yes_c {w0 w : World} {F : List SP} {p : Nat} {D : List Int} {l r d : Int} (H : At w0 (skw p D :: F) w) (hn : D.length ≤ 1000000) (hl0 : 0 ≤ l) (hl1 : l ≤ 18446744073709551615) (hr0 : 0 ≤ r) (hr1 : r ≤ 18446744073709551615) (hd : r - l = d) (h0 : -9223372036854775807 ≤ d) (h1 : d ≤ 9223372036854775807) :
    Calls Try.prog 13 #[.pointer (some ⟨p, 0, none⟩), .int .u64 l, .int .u64 r] w fun e w' => e = .returned (.bool true) ∧ At w0 (skw p (D ++ [d]) :: F) w' := by
  have hb : apB l r = true := decide_eq_true (by omega)
  have h := add_c H hn hl0 hl1 hr0 hr1
  have hz : apZ l r = d := by unfold apZ; rw [if_pos hb]; exact hd
  rw [hz, hb, if_pos rfl] at h
  exact h
/-- One is added that is not told. -/
theorem no_c {w0 w : World} {F : List SP} {p : Nat} {D : List Int} {l r : Int} (H : At w0 (skw p D :: F) w) (hn : D.length ≤ 1000000) (hl0 : 0 ≤ l) (hl1 : l ≤ 18446744073709551615) (hr0 : 0 ≤ r) (hr1 : r ≤ 18446744073709551615) (hb : ¬ (-9223372036854775807 ≤ r - l ∧ r - l ≤ 9223372036854775807)) :
    Calls Try.prog 13 #[.pointer (some ⟨p, 0, none⟩), .int .u64 l, .int .u64 r] w fun e w' => e = .returned (.bool false) ∧ At w0 (skw p D :: F) w' := by
  have hb : apB l r = false := decide_eq_false hb
  have h := add_c H hn hl0 hl1 hr0 hr1
  rw [hb, if_neg (by simp)] at h
  exact h
theorem lo_of {D S : List Int} (hp : S.Perm (last D)) (hw : S.Pairwise (fun a b => a ≤ b)) : lo D = gz S 0 := by unfold lo; rw [srt_unique hp hw]
theorem hi_of {D S : List Int} (hp : S.Perm (last D)) (hw : S.Pairwise (fun a b => a ≤ b)) : hi D = gz S ((last D).length - 1) := by unfold hi; rw [srt_unique hp hw]
theorem mid_of {D S : List Int} (hp : S.Perm (last D)) (hw : S.Pairwise (fun a b => a ≤ b)) : mid D = gz S (((last D).length - 1) / 2) := by unfold mid; rw [srt_unique hp hw]
set_option maxRecDepth 10000 in
set_option maxHeartbeats 1000000 in
theorem shown_c {w0 w : World} {F : List SP} (H : At w0 F w) : Calls Try.prog 12 #[] w fun e w' => e = .returned (.bool true) ∧ At w0 F w' := by
  have h0 : has [] = false := by decide
  have h1 : has [5, -3, 9] = true := by decide
  have h2 : len [5, -3, 9] = 3 := by decide
  have hp : ([-3, 5, 9] : List Int).Perm (last [5, -3, 9]) := by decide
  have hw : ([-3, 5, 9] : List Int).Pairwise (fun a b => a ≤ b) := by decide
  have h3 : lo [5, -3, 9] = -3 := lo_of hp hw
  have h4 : hi [5, -3, 9] = 9 := hi_of hp hw
  have h5 : mid [5, -3, 9] = 5 := mid_of hp hw
  go_enter Try.func12, Try.ntmps12
  go_wp2_with ((with_reducible refine wpList_op rfl ?_); intro _ hK; refine wp_box_sl (v := .agg (skC (List.replicate 16 0) 0)) 27 _ rfl rfl H (fun p w' (H : At w0 (raw p (skC (List.replicate 16 0) 0) 27 :: F) w') _ => hK _ _ ?_))
  have H := skw_new H
  refine (bd_c H).mono ?_; rintro e w' ⟨rfl, H⟩
  go_wp2_with fail
  refine (yes_c H (d := 5) (by simp) (by omega) (by omega) (by omega) (by omega) (by omega) (by omega) (by omega)).mono ?_; rintro e w' ⟨rfl, H⟩
  go_wp2_with fail
  refine (yes_c H (d := -3) (by simp) (by omega) (by omega) (by omega) (by omega) (by omega) (by omega) (by omega)).mono ?_; rintro e w' ⟨rfl, H⟩
  go_wp2_with fail
  refine (yes_c H (d := 9) (by simp) (by omega) (by omega) (by omega) (by omega) (by omega) (by omega) (by omega)).mono ?_; rintro e w' ⟨rfl, H⟩
  go_wp2_with fail
  refine (no_c H (by simp) (by omega) (by omega) (by omega) (by omega) (by omega)).mono ?_; rintro e w' ⟨rfl, H⟩
  replace H : At w0 (skw _ [5, -3, 9] :: F) w' := H
  go_wp2_with fail
  refine (bd_c H).mono ?_; rintro e w' ⟨rfl, H⟩
  go_wp2_with fail
  refine (md_c H).mono ?_; rintro e w' ⟨rfl, H⟩
  go_wp2_with fail
  refine (ln_c H).mono ?_; rintro e w' ⟨rfl, H⟩
  go_wp2
  go_ret
  exact ⟨rfl, H.tail⟩
end Go.Proofs.Ythhmgodnmgmjdaa
