/-
  A box has room for sixty-four, and as soon as one goes there is room for one: the law answers true for every input, and its arguments read as before.
-/
import Derived.Test.YtogicnbocefkbaaLaw15
import Derived.Test.YtogicnbocefkbaaNum
import Derived.Test.YtogicnbocefkbaaFrame
namespace Go.Proofs.Ytogicnbocefkbaa
open Go.ChangeShapes Go.WideShapes Go.ChangeAt Go.RowKit Go.Hg
open Go.ChangeMaps (open_string shut_string)
set_option linter.unusedSimpArgs false
set_option linter.unusedVariables false
/-- The state at each head of a loop: the box that is looked at has so many. -/
def HasBox (w0 : World) (m : Nat) (n : Nat) (b : Nat) (k : Nat) (w : World) : Prop := ∃ L, MailOK L ∧ L.length = n ∧ (L.getD b []).length = k ∧ At w0 [mail m L] w
theorem mod_pos (a b : Int) (hb : 0 < b) : ∃ y, a % b = y ∧ 0 ≤ y ∧ y < b := ⟨_, rfl, Int.emod_nonneg _ (by omega), Int.emod_lt_of_pos _ hb⟩
set_option maxRecDepth 10000 in
set_option maxHeartbeats 1000000 in
theorem full_walk (z0 z1 : Int) (a : Option Addr) (len cap : Nat) (w : World) (hlen : (len : Int) ≤ 9223372036854775807) (b off : Nat) (hcell : ∀ i : Nat, i < len → a = some ⟨b, off, none⟩ ∧ ∃ x, w.cell? ⟨b, off + i, none⟩ = some (.int .u8 x) ∧ 0 ≤ x ∧ x ≤ 255) :
    Calls Try.prog 5 #[.int .i64 z0, .int .i64 z1, .slice a len cap] w fun e w' => e = .returned (.bool true) ∧ Below w.heap.size w w' := by
  have H := At.start w
  obtain ⟨x0, hx0, hx0a, hx0b⟩ := low16 z0
  obtain ⟨x1, hx1, hx1a, hx1b⟩ := low16 z1
  obtain ⟨q, hq, hqa, hqb⟩ := mod_pos x0 64 (by omega)
  obtain ⟨y, hy, hya, hyb⟩ := mod_pos x1 (1 + q) (by omega)
  have hM0 := MailOK.new (1 + q)
  have hl0 := length_new (1 + q)
  have hg0 := getD_new (1 + q) y.toNat
  have Hp0 := Lib.hid (put_facts_none (L := newL (1 + q)) (k := (1 + q).toNat) (by omega) (bodyOf ⟨#[]⟩))
  have Hl0 := Lib.hid hl0
  have Hg0 := Lib.hid hg0
  clear hl0 hg0
  go_enter Try.func5, Try.ntmps5
  go_wp2_with fail
  refine (shown_c H).mono ?_; rintro e w' ⟨rfl, H⟩
  go_wp2_with fail
  refine (new_c H _).mono ?_; rintro e w' ⟨m, rfl, H⟩
  go_wp2_with fail
  refine (body_c H ⟨#[]⟩ (by decide)).mono ?_; rintro e w' ⟨rfl, H⟩
  go_wp2_with fail
  refine (put_c H hM0 _ (by omega) (by omega) _ (bodyOf_length _)).mono ?_; rintro e w' ⟨rfl, H⟩
  rw [Hp0.out.1]
  rw [Hp0.out.2] at H
  go_wp2_with fail
  go_loopw [10] (fun i wr => ∃ k : Nat, (k : Int) ≤ 64 ∧ i = .int .i64 k ∧ HasBox w m (1 + q).toNat y.toNat k wr) (fun i _ => 64 - (intOf i).toNat)
  case atStart => exact ⟨0, by omega, rfl, newL (1 + q), hM0, by rw [Hl0.out]; omega, by rw [Hg0.out]; rfl, H⟩
  case round =>
    clear H hM0 Hl0 Hg0 Hp0
    obtain ⟨k, hk, rfl, L, hM, hL, hgk, H⟩ := hrel
    have HL := Lib.hid hL
    have HG := Lib.hid hgk
    clear hL hgk
    by_cases hlt : (k : Int) < 64
    · have Hp := Lib.hid (put_facts (L := L) (k := y.toNat) (by rw [HL.out]; omega) (by rw [HG.out]; omega) (bodyOf ⟨#[120]⟩))
      go_wp2_with fail
      refine (body_c H ⟨#[120]⟩ (by decide)).mono ?_; rintro e w' ⟨rfl, H⟩
      go_wp2_with fail
      refine (put_c H hM _ (by omega) (by omega) _ (bodyOf_length _)).mono ?_; rintro e w' ⟨rfl, H⟩
      rw [Hp.out.1]
      go_wp2
      go_roundw
      case rel => exact ⟨k + 1, by omega, by go_num, _, hM.put _ (bodyOf_length _), Hp.out.2.1.trans HL.out, by rw [Hp.out.2.2, List.length_append, HG.out]; rfl, H⟩
      case measure => simp [intOf]; omega
    · obtain rfl : k = 64 := by omega
      go_wp2_with fail
      go_loopw [11] (fun i wr => ∃ j : Nat, (j : Int) ≤ 20 ∧ i = .int .i64 j ∧ HasBox w m (1 + q).toNat y.toNat 64 wr) (fun i _ => 20 - (intOf i).toNat)
      case atStart => exact ⟨0, by omega, rfl, L, hM, HL.out, HG.out, H⟩
      case round =>
        clear H hM HL HG
        obtain ⟨j, hj, rfl, L, hM, hL, hgk, H⟩ := hrel
        have HL := Lib.hid hL
        have HG := Lib.hid hgk
        clear hL hgk
        by_cases h1 : (j : Int) < len
        · by_cases h2 : (j : Int) < 20
          · obtain ⟨ha, x, hx, hxa, hxb⟩ := hcell j (by omega)
            subst ha
            clear hcell
            have hx' : _ := (H.below.cell (World.block_lt_of_cell? w _ hx)).trans hx
            clear hx
            have Hf := Lib.hid (fetch_facts (L := L) (k := y.toNat) (by rw [HL.out]; omega) (n := x % 70) (by omega))
            have hM' := hM.fetch y.toNat (x % 70)
            obtain ⟨p, hp⟩ : ∃ p, p = (fetchX L y.toNat (x % 70)).length := ⟨_, rfl⟩
            have hpl : (p : Int) = min (x % 70) 64 := by rw [hp, Hf.out.2.1, List.length_take, HG.out]; omega
            have hrest : ((fetchL L y.toNat (x % 70)).getD y.toNat []).length = 64 - p := by rw [Hf.out.2.2.2, List.length_drop, HG.out]; omega
            have hlenM : (lenM (fetchL L y.toNat (x % 70)) y.toNat : Int) = 64 - p := by unfold lenM; rw [hrest]; omega
            have HP := Lib.hid hp
            have HR := Lib.hid hrest
            have HLM := Lib.hid hlenM
            clear hp hrest hlenM
            have hp1 : (p : Int) ≤ 64 := by omega
            by_cases hn : x % 70 ≤ 64
            all_goals
              have hpe : (p : Int) = min (x % 70) 64 := hpl
              first | (have hpe : (p : Int) = x % 70 := by omega) | (have hpe : (p : Int) = 64 := by omega)
              clear hpl
              go_wp2_with fail
              refine (fetch_c H hM _ (by omega) (by omega) _).mono ?_; rintro e w' ⟨u, rfl, H⟩
              obtain ⟨ua, uc, rfl⟩ := H.rows_slice
              rw [Hf.out.1]
              rw [← HP.out] at H ⊢
              go_wp2_with fail
              refine (len_c (H.pull 1 rfl) _ (by omega) (by omega)).mono ?_; rintro e w' ⟨rfl, rfl⟩
              rw [HLM.out]
              go_wp2_with fail
              go_loopw [15] (fun i wr => ∃ k : Nat, (k : Int) ≤ p ∧ i = .int .i64 k ∧ HasBox w m (1 + q).toNat y.toNat (64 - p + k) wr) (fun i _ => p - (intOf i).toNat)
              case atStart => exact ⟨0, by omega, rfl, _, hM', Hf.out.2.2.1.trans HL.out, HR.out, H.tail⟩
              case round =>
                clear H hM' HR HLM HL HG HP Hf hM
                obtain ⟨k, hk, rfl, L, hM, hL, hgk, H⟩ := hrel
                have HL := Lib.hid hL
                have HG := Lib.hid hgk
                clear hL hgk
                by_cases hlt : (k : Int) < p
                · have Hp := Lib.hid (put_facts (L := L) (k := y.toNat) (by rw [HL.out]; omega) (by rw [HG.out]; omega) (bodyOf ⟨#[121]⟩))
                  go_wp2_with fail
                  refine (body_c H ⟨#[121]⟩ (by decide)).mono ?_; rintro e w' ⟨rfl, H⟩
                  go_wp2_with fail
                  refine (put_c H hM _ (by omega) (by omega) _ (bodyOf_length _)).mono ?_; rintro e w' ⟨rfl, H⟩
                  rw [Hp.out.1]
                  go_wp2
                  go_roundw
                  case rel => exact ⟨k + 1, by omega, by go_num, _, hM.put _ (bodyOf_length _), Hp.out.2.1.trans HL.out, by rw [Hp.out.2.2, List.length_append, HG.out]; rfl, H⟩
                  case measure => simp [intOf]; omega
                · have hkp : k = p := by omega
                  have Hp := Lib.hid (put_facts_full (L := L) (k := y.toNat) (by rw [HL.out]; omega) (by rw [HG.out]; omega) (bodyOf ⟨#[122]⟩))
                  have hlen64 : (lenM L y.toNat : Int) = 64 := by unfold lenM; rw [HG.out]; omega
                  have HLM := Lib.hid hlen64
                  clear hlen64 hkp
                  go_wp2_with fail
                  refine (body_c H ⟨#[122]⟩ (by decide)).mono ?_; rintro e w' ⟨rfl, H⟩
                  go_wp2_with fail
                  refine (put_c H hM _ (by omega) (by omega) _ (bodyOf_length _)).mono ?_; rintro e w' ⟨rfl, H⟩
                  rw [Hp.out.1]
                  rw [Hp.out.2] at H
                  go_wp2_with fail
                  refine (len_c H _ (by omega) (by omega)).mono ?_; rintro e w' ⟨rfl, rfl⟩
                  rw [HLM.out]
                  go_wp2
                  go_roundw
                  case rel => exact ⟨j + 1, by omega, by go_num, L, hM, HL.out, by rw [HG.out]; omega, H⟩
                  case measure => simp [intOf]; omega
          · have Hp := Lib.hid (put_facts_full (L := L) (k := y.toNat) (by rw [HL.out]; omega) (by rw [HG.out]; omega) (bodyOf ⟨#[122]⟩))
            go_wp2_with fail
            refine (body_c H ⟨#[122]⟩ (by decide)).mono ?_; rintro e w' ⟨rfl, H⟩
            go_wp2_with fail
            refine (put_c H hM _ (by omega) (by omega) _ (bodyOf_length _)).mono ?_; rintro e w' ⟨rfl, H⟩
            rw [Hp.out.1]
            go_wp2
            go_ret
            exact ⟨rfl, H.below⟩
        · have Hp := Lib.hid (put_facts_full (L := L) (k := y.toNat) (by rw [HL.out]; omega) (by rw [HG.out]; omega) (bodyOf ⟨#[122]⟩))
          go_wp2_with fail
          refine (body_c H ⟨#[122]⟩ (by decide)).mono ?_; rintro e w' ⟨rfl, H⟩
          go_wp2_with fail
          refine (put_c H hM _ (by omega) (by omega) _ (bodyOf_length _)).mono ?_; rintro e w' ⟨rfl, H⟩
          rw [Hp.out.1]
          go_wp2
          go_ret
          exact ⟨rfl, H.below⟩

theorem mailboxFull_walk (z0 z1 : Int) (a : Option Addr) (len cap : Nat) (w : World) (h0 : (Lit.int .i64 z0).wf = true) (h1 : (Lit.int .i64 z1).wf = true) (h2 : IntRow .u8 w a len) :
    Calls Try.prog 5 #[.int .i64 z0, .int .i64 z1, .slice a len cap] w fun e w' => e = .returned (.bool true) ∧ Below w.heap.size w w' := by
  obtain ⟨hl, b, off, hc⟩ := h2
  refine full_walk z0 z1 a len cap w hl b off fun i hi => ?_
  obtain ⟨ha, x, hx, hw⟩ := hc i hi
  exact ⟨ha, x, hx, bounds_u8 hw⟩

theorem mailboxFull_own : ownKnob Try.prog.godebug = none := by kernel_rfl
theorem mailboxFull_laid : laidOutB Try.prog = true := by kernel_rfl
set_option maxRecDepth 100000 in
theorem mailboxFull_lifted (os : Os) (started : os.Started) (H : Type) (enc : TypeId × Value → H) :
    ReturnsInHanded {} Try.checked os 5 .any (Rows.mailboxFullSpec.pre6 enc Try.prog Try.f5 Rows.mailboxFullRow.domain false) (Rows.mailboxFullSpec.post enc Try.prog Try.f5 false true false false) := by
  refine returnsInHanded_of_change (C := Try.checked) mailboxFull_own started (by kernel_rfl) Try.func5
    (ChangeSpec.witness6 (enc := enc) (C := Try.checked) false ⟨#[], #[.int .i64 0, .int .i64 0, .slice none 0 0], []⟩ 8 (by kernel_rfl) (by kernel_rfl) (by kernel_rfl) (by kernel_rfl)) ?_
  intro W base args ds gs before hval0 hW hcnd _
  have hval : ∀ (j : Nat) t v, Try.f5.params[j]? = some t → args[j]? = some v → Value.okWide Try.prog W .any base t v := hval0
  have hW' := hW
  obtain ⟨p, q, hA0, hV, rfl, hfz, hnd⟩ := hW
  have hA : DataW.TrodAll enc Try.prog W 0 (fun _ => true) true Try.f5.params.toList args.toList ds p := hA0
  rw [Try.params5] at hA hval
  obtain ⟨v0, vs0, d0, ds0, p0, q0, hargs, rfl, rfl, h0, r0⟩ := trodAll_cons hA
  obtain ⟨v1, vs1, d1, ds1, p1, q1, rfl, rfl, rfl, h1, r1⟩ := trodAll_cons r0
  obtain ⟨v2, vs2, d2, ds2, p2, q2, rfl, rfl, rfl, h2, r2⟩ := trodAll_cons r1
  obtain ⟨rfl, rfl, rfl⟩ := trodAll_nil r2
  obtain rfl : args = #[v0, v1, v2] := by cases args; simp_all
  obtain ⟨rfl, rfl⟩ := trodVars_none hV
  have k0 := h0
  have lt0 : ∀ x ∈ p0, x.block < W.heap.size := by obtain ⟨m, hm⟩ := k0; exact DataW.trod_lt m _ _ _ hm
  have k1 := h1
  have lt1 : ∀ x ∈ p1, x.block < W.heap.size := by obtain ⟨m, hm⟩ := k1; exact DataW.trod_lt m _ _ _ hm
  have k2 := h2
  have lt2 : ∀ x ∈ p2, x.block < W.heap.size := by obtain ⟨m, hm⟩ := k2; exact DataW.trod_lt m _ _ _ hm
  obtain ⟨a0, rfl, rfl, rfl, f0⟩ := open_int Try.underlying3 (hval 0 3 v0 rfl rfl) h0
  obtain ⟨a1, rfl, rfl, rfl, f1⟩ := open_int Try.underlying3 (hval 1 3 v1 rfl rfl) h1
  obtain ⟨a2, len2, cap2, rfl⟩ := okWide_slice Try.underlying39 (hval 2 39 v2 rfl rfl)
  have f2 : IntRow .u8 W a2 len2 := by
    obtain ⟨fuel, hf⟩ := h2
    rcases open_ints Try.underlying39 Try.underlying5 (by kernel_rfl) hf with ⟨hcs, _⟩ | ⟨x, l, c, zs, hcs, _, hl, hm, hz, _, hcell, hwz⟩
    · simp [Value.cells] at hcs
      obtain ⟨rfl, rfl, rfl⟩ := hcs
      exact intRow_of (cap := 0) (zs := []) (.inl ⟨rfl, rfl⟩)
    · simp [Value.cells] at hcs
      obtain ⟨rfl, rfl, rfl⟩ := hcs
      exact intRow_of (.inr ⟨_, rfl, hl, hm, by simpa using hz, hcell, hwz⟩)
  clear hA0 hval0
  refine (mailboxFull_walk a0 a1 a2 len2 cap2 W f0 f1 f2).mono fun e W' ⟨he, bel⟩ => ?_
  subst he
  exact ⟨_, rfl, _, _, _, [], _, [], hW', trodAll_mk1 (shut_bool Try.underlying4 _), (trodAll_cons_mk (Below.trod mailboxFull_laid (by kernel_rfl) (of_decide_eq_true (by kernel_rfl)) k0 bel lt0) (trodAll_cons_mk (Below.trod mailboxFull_laid (by kernel_rfl) (of_decide_eq_true (by kernel_rfl)) k1 bel lt1) (trodAll_cons_mk (Below.trod mailboxFull_laid (by kernel_rfl) (of_decide_eq_true (by kernel_rfl)) k2 bel lt2) trodAll_mk0))), rfl, bel.frame _, fun h => by cases h⟩
theorem mailboxFull_holds : Rows.MailboxFullSaid :=
  OpenClaim.holds_of_wide 5 Try.f5 rfl rfl rfl rfl rfl rfl rfl ⟨rfl, rfl, rfl, rfl, rfl⟩ rfl rfl rfl rfl rfl (by kernel_rfl) Try.func5 (by kernel_rfl)
    (of_decide_eq_true (by kernel_rfl)) (by unfold Func.isWrapper; first | (rw [if_pos (by decide +kernel)]; kernel_rfl) | (rw [if_neg (by decide +kernel)]; exact ⟨rfl, rfl⟩))
    (fun os started H enc _ => mailboxFull_lifted os started H enc)
#print axioms mailboxFull_holds
end Go.Proofs.Ytogicnbocefkbaa
