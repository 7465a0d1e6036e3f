/-
  Clocks that go alike are no way apart: the law answers true for every input, and its arguments read as before.
-/
import Derived.Test.YthhmgodnmgmjdaaSkFacts
import Derived.Test.YthhmgodnmgmjdaaNumU
namespace Go.Proofs.Ythhmgodnmgmjdaa
open Go.ChangeShapes Go.WideShapes Go.ChangeAt Go.RowKit Go.Hg Go.Shelf
set_option linter.unusedSimpArgs false
set_option linter.unusedVariables false
theorem low62u (z : Int) : ∃ x : Int, bits .and .u64 z 4611686018427387903 = x ∧ 0 ≤ x ∧ x ≤ 4611686018427387903 := by
  refine ⟨_, bits_and_low_u z 62 (by omega), ?_, ?_⟩
  · exact Int.emod_nonneg _ (by decide)
  · have := Int.emod_lt_of_pos z (show (0 : Int) < 2 ^ 62 by decide)
    omega
theorem same_facts (j : Nat) (d : Int) : lo (List.replicate j d ++ [d]) = d ∧ hi (List.replicate j d ++ [d]) = d ∧ mid (List.replicate j d ++ [d]) = d ∧ has (List.replicate j d ++ [d]) = true :=
  all_same (by simp) (fun x hx => by
    have := last_sub hx
    rw [List.mem_append, List.mem_replicate, List.mem_singleton] at this
    rcases this with ⟨_, h⟩ | h <;> exact h)
set_option maxRecDepth 10000 in
set_option maxHeartbeats 1000000 in
theorem skewSame_walk (a : Option Addr) (len_ cap : Nat) (by_ : Int) (w : World) (h1 : IntRow .u64 w a len_) (h2 : (Lit.int .u32 by_).wf = true) :
    Calls Try.prog 11 #[.slice a len_ cap, .int .u32 by_] w fun e w' => e = .returned (.bool true) ∧ Below w.heap.size w w' := by
  obtain ⟨hlen, b, off, hrow⟩ := h1
  have hb := bounds_u32 h2
  have hb1 : by_ ≤ 4294967295 := by omega
  have hb0 := hb.1
  have hw1 : IntKind.u64.wrap by_ = by_ := by rw [IntKind.wrap_u64]; omega
  have hw2 : IntKind.i64.wrap by_ = by_ := by rw [IntKind.wrap_i64]; omega
  clear h2 hb
  have H := At.start w
  go_enter Try.func11, Try.ntmps11
  go_wp2_with fail
  refine (shown_c H).mono ?_; rintro e w' ⟨rfl, H⟩
  go_wp2_with ((with_reducible refine wpList_op rfl ?_); intro _ hK; first
    | (refine wp_box_sl (v := .agg (skC (List.replicate 16 0) 0)) 27 _ rfl rfl H (fun pa w' (H : At w [raw pa (skC (List.replicate 16 0) 0) 27] w') _ => hK _ _ ?_))
    | (refine wp_box_sl (v := .agg (skC (List.replicate 16 0) 0)) 27 _ rfl rfl H (fun pb w' (H : At w [raw pb (skC (List.replicate 16 0) 0) 27, raw pa (skC (List.replicate 16 0) 0) 27] w') _ => hK _ _ ?_)))
  have H : At w [skw pa [], skw pb []] w' := skw_new ((skw_new H).pull 1 rfl)
  go_loopw [8] (fun i wr => ∃ j : Nat, j ≤ 40 ∧ i = .int .i64 j ∧ At w [skw pa (List.replicate j 0), skw pb (List.replicate j by_)] wr) (fun i _ => 40 - (intOf i).toNat)
  case atStart => exact ⟨0, by omega, rfl, H⟩
  case round =>
    clear H
    obtain ⟨j, hj, rfl, H⟩ := hrel
    by_cases g1 : (j : Int) < len_
    · by_cases g2 : (j : Int) < 40
      · obtain ⟨rfl, x, hx, _⟩ := hrow j (by omega)
        have hcx : wr.cell? ⟨b, off + j, none⟩ = some (.int .u64 x) := (H.below.cell (World.block_lt_of_cell? w _ hx)).trans hx
        obtain ⟨t, ht, t0, t1⟩ := low62u x
        have hw3 : IntKind.u64.wrap (t + by_) = t + by_ := by rw [IntKind.wrap_u64]; omega
        obtain ⟨ea1, ea2, ea3, ea4⟩ := same_facts j 0
        obtain ⟨eb1, eb2, eb3, eb4⟩ := same_facts j by_
        have el := len_le (List.replicate j 0 ++ [0])
        have el2 : len (List.replicate j 0 ++ [0]) = min (j + 1) 16 := by unfold len; rw [last_length]; simp
        have ra : List.replicate (j + 1) (0 : Int) = List.replicate j 0 ++ [0] := List.replicate_succ'
        have rb : List.replicate (j + 1) by_ = List.replicate j by_ ++ [by_] := List.replicate_succ'
        obtain ⟨Da, hDa⟩ : ∃ Da, Da = List.replicate j (0 : Int) ++ [0] := ⟨_, rfl⟩
        obtain ⟨Db, hDb⟩ : ∃ Db, Db = List.replicate j by_ ++ [by_] := ⟨_, rfl⟩
        have ya := fun (wr : World) (F : List SP) (H : At w (skw pa (List.replicate j 0) :: F) wr) => yes_c H (l := t) (r := t) (d := 0) (by simp; omega) t0 (by omega) t0 (by omega) (by omega) (by omega) (by omega)
        have yb := fun (wr : World) (F : List SP) (H : At w (skw pb (List.replicate j by_) :: F) wr) => yes_c H (l := t) (r := t + by_) (d := by_) (by simp; omega) t0 (by omega) (by omega) (by omega) (by omega) (by omega) (by omega)
        rw [← hDa] at ea1 ea2 ea3 ea4 el el2 ra
        rw [← hDb] at eb1 eb2 eb3 eb4 rb
        simp only [← hDa] at ya
        simp only [← hDb] at yb
        have hmin : (if (16 : Int) < (j : Int) + 1 then (16 : Int) else (j : Int) + 1) = (len Da : Int) := by rw [el2]; split <;> omega
        have RA := Lib.hid ra
        have RB := Lib.hid rb
        clear hDa hDb hx el el2 hrow ra rb
        go_wp2_with fail
        refine (ya _ _ H).mono ?_; rintro e w' ⟨rfl, H⟩
        go_wp2_with fail
        refine (yb _ _ (H.pull 1 rfl)).mono ?_; rintro e w' ⟨rfl, H⟩
        go_wp2_with fail
        refine (bd_c (H.pull 1 rfl)).mono ?_; rintro e w' ⟨rfl, H⟩
        rw [ea1, ea2, ea4]
        go_wp2_with fail
        refine (md_c H).mono ?_; rintro e w' ⟨rfl, H⟩
        rw [ea3, ea4]
        go_wp2_with fail
        refine (bd_c (H.pull 1 rfl)).mono ?_; rintro e w' ⟨rfl, H⟩
        rw [eb1, eb2, eb4]
        go_wp2_with fail
        refine (md_c H).mono ?_; rintro e w' ⟨rfl, H⟩
        rw [eb3, eb4]
        go_wp2_with fail
        refine (ln_c (H.pull 1 rfl)).mono ?_; rintro e w' ⟨rfl, H⟩
        go_wp2_with fail
        first
          | (refine ⟨?_, ?measure⟩; iterate 60 (try apply Exists.intro); refine ⟨?rel, rfl⟩)
          | refine ⟨?rel, ?measure⟩
        case rel => exact ⟨j + 1, by omega, by go_num, by rw [RA.out, RB.out]; exact H⟩
        case measure => simp [intOf]; omega
      · go_wp2
        go_ret
        exact ⟨rfl, H.below⟩
    · go_wp2
      go_ret
      exact ⟨rfl, H.below⟩
theorem skewSame_own : ownKnob Try.prog.godebug = none := by kernel_rfl
theorem skewSame_laid : laidOutB Try.prog = true := by kernel_rfl
set_option maxRecDepth 100000 in
theorem skewSame_lifted (os : Os) (started : os.Started) (H : Type) (enc : TypeId × Value → H) :
    ReturnsInHanded {} Try.checked os 11 .any (Rows.skewSameSpec.pre6 enc Try.prog Try.f11 Rows.skewSameRow.domain false) (Rows.skewSameSpec.post enc Try.prog Try.f11 false true false false) := by
  refine returnsInHanded_of_change (C := Try.checked) skewSame_own started (by kernel_rfl) Try.func11
    (ChangeSpec.witness6 (enc := enc) (C := Try.checked) false ⟨#[], #[.slice none 0 0, .int .u32 0], []⟩ 8 (by kernel_rfl) (by kernel_rfl) (by kernel_rfl) (by kernel_rfl)) ?_
  intro W base args ds gs before hval0 hW hcnd _
  have hval : ∀ (j : Nat) t v, Try.f11.params[j]? = some t → args[j]? = some v → Value.okWide Try.prog W .any base t v := hval0
  have hW' := hW
  obtain ⟨p, q, hA0, hV, rfl, hfz, hnd⟩ := hW
  have hA : DataW.TrodAll enc Try.prog W 0 (fun _ => true) true Try.f11.params.toList args.toList ds p := hA0
  rw [Try.params11] at hA hval
  obtain ⟨v0, vs0, d0, ds0, p0, q0, hargs, rfl, rfl, h0, r0⟩ := trodAll_cons hA
  obtain ⟨v1, vs1, d1, ds1, p1, q1, rfl, rfl, rfl, h1, r1⟩ := trodAll_cons r0
  obtain ⟨rfl, rfl, rfl⟩ := trodAll_nil r1
  obtain rfl : args = #[v0, v1] := by cases args; simp_all
  obtain ⟨rfl, rfl⟩ := trodVars_none hV
  have k0 := h0
  have lt0 : ∀ x ∈ p0, x.block < W.heap.size := by obtain ⟨m, hm⟩ := k0; exact DataW.trod_lt m _ _ _ hm
  have k1 := h1
  have lt1 : ∀ x ∈ p1, x.block < W.heap.size := by obtain ⟨m, hm⟩ := k1; exact DataW.trod_lt m _ _ _ hm
  obtain ⟨a0, len0, cap0, rfl⟩ := okWide_slice Try.underlying43 (hval 0 43 v0 rfl rfl)
  have f0 : IntRow .u64 W a0 len0 := by
    obtain ⟨fuel, hf⟩ := h0
    rcases open_ints Try.underlying43 Try.underlying33 (by kernel_rfl) hf with ⟨hcs, _⟩ | ⟨x, l, c, zs, hcs, _, hl, hm, hz, _, hcell, hwz⟩
    · simp [Value.cells] at hcs
      obtain ⟨rfl, rfl, rfl⟩ := hcs
      exact intRow_of (cap := 0) (zs := []) (.inl ⟨rfl, rfl⟩)
    · simp [Value.cells] at hcs
      obtain ⟨rfl, rfl, rfl⟩ := hcs
      exact intRow_of (.inr ⟨_, rfl, hl, hm, by simpa using hz, hcell, hwz⟩)
  obtain ⟨a1, rfl, rfl, rfl, f1⟩ := open_int Try.underlying44 (hval 1 44 v1 rfl rfl) h1
  clear hA0 hval0
  refine (skewSame_walk a0 len0 cap0 a1 W f0 f1).mono fun e W' ⟨he, bel⟩ => ?_
  subst he
  exact ⟨_, rfl, _, _, _, [], _, [], hW', trodAll_mk1 (shut_bool Try.underlying4 _), (trodAll_cons_mk (Below.trod skewSame_laid (by kernel_rfl) (of_decide_eq_true (by kernel_rfl)) k0 bel lt0) (trodAll_cons_mk (Below.trod skewSame_laid (by kernel_rfl) (of_decide_eq_true (by kernel_rfl)) k1 bel lt1) trodAll_mk0)), rfl, bel.frame _, fun h => by cases h⟩
theorem skewSame_holds : Rows.SkewSameSaid :=
  OpenClaim.holds_of_wide 11 Try.f11 rfl rfl rfl rfl rfl rfl rfl ⟨rfl, rfl, rfl, rfl, rfl⟩ rfl rfl rfl rfl rfl (by kernel_rfl) Try.func11 (by kernel_rfl)
    (of_decide_eq_true (by kernel_rfl)) (by unfold Func.isWrapper; first | (rw [if_pos (by decide +kernel)]; kernel_rfl) | (rw [if_neg (by decide +kernel)]; exact ⟨rfl, rfl⟩))
    (fun os started H enc _ => skewSame_lifted os started H enc)
#print axioms skewSame_holds
end Go.Proofs.Ythhmgodnmgmjdaa
