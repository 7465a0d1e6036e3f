/-
  How far two times are apart; a skew: what it holds; Add, Len.
-/
import Derived.Test.YthhmgodnmgmjdaaProg
import Derived.Test.YthhmgodnmgmjdaaSees
import Derived.Test.YthhmgodnmgmjdaaDraw
namespace Go.Proofs.Ythhmgodnmgmjdaa
open Go.RowKit Go.Hg
set_option linter.unusedSimpArgs false
set_option linter.unusedVariables false
set_option maxRecDepth 10000 in
theorem told_c (n : Int) (b : Bool) (w : World) : Calls Try.prog 25 #[.int .u64 n, .bool b] w fun e w' => e = .returned (.tuple #[.int .u64 (if b then n else 0), .bool b]) ∧ w = w' := by
  cases b
  all_goals
    go_enter Try.func25, Try.ntmps25
    go_wp2
    go_ret2
    exact ⟨rfl, rfl⟩
set_option maxRecDepth 10000 in
theorem sub_yes {a b : Int} (h : b ≤ a) (hb : 0 ≤ b) (ha : a ≤ 18446744073709551615) (w : World) : Calls Try.prog 21 #[.int .u64 a, .int .u64 b] w fun e w' => e = .returned (.tuple #[.int .u64 (a - b), .bool true]) ∧ w = w' := by
  have hw : IntKind.u64.wrap (a - b) = a - b := by rw [IntKind.wrap_u64]; omega
  go_enter Try.func21, Try.ntmps21
  go_wp2_with fail
  refine (told_c _ true _).mono ?_; rintro e w' ⟨rfl, rfl⟩
  go_wp2
  go_ret2
  exact ⟨rfl, rfl⟩
set_option maxRecDepth 10000 in
theorem sub_no {a b : Int} (h : ¬ b ≤ a) (ha : 0 ≤ a) (hb : b ≤ 18446744073709551615) (w : World) : Calls Try.prog 21 #[.int .u64 a, .int .u64 b] w fun e w' => e = .returned (.tuple #[.int .u64 0, .bool false]) ∧ w = w' := by
  go_enter Try.func21, Try.ntmps21
  go_wp2_with fail
  refine (told_c _ false _).mono ?_; rintro e w' ⟨rfl, rfl⟩
  go_wp2
  go_ret2
  exact ⟨rfl, rfl⟩
set_option maxRecDepth 10000 in
theorem fits_yes {n : Int} (h0 : 0 ≤ n) (h1 : n ≤ 9223372036854775807) (w : World) : Calls Try.prog 22 #[.int .u64 n] w fun e w' => e = .returned (.tuple #[.int .i64 n, .bool true]) ∧ w = w' := by
  have hw : IntKind.i64.wrap n = n := by rw [IntKind.wrap_i64]; omega
  have hw2 : IntKind.u64.wrap n = n := by rw [IntKind.wrap_u64]; omega
  have h2 : ¬ n < 0 := by omega
  have hf : Calls Try.prog 26 #[.int .u64 n] w fun e w' => e = .returned (.tuple #[.int .i64 n, .bool true]) ∧ w = w' := by
    go_enter Try.func26, Try.ntmps26
    go_wp2
    go_ret2
    exact ⟨rfl, rfl⟩
  go_enter Try.func22, Try.ntmps22
  go_wp2_with fail
  refine hf.mono ?_; rintro e w' ⟨rfl, rfl⟩
  go_wp2
  go_ret2
  exact ⟨rfl, rfl⟩
set_option maxRecDepth 10000 in
theorem fits_no {n : Int} (h0 : 9223372036854775807 < n) (h1 : n ≤ 18446744073709551615) (w : World) : Calls Try.prog 22 #[.int .u64 n] w fun e w' => e = .returned (.tuple #[.int .i64 0, .bool false]) ∧ w = w' := by
  have hw : IntKind.i64.wrap n = n - 18446744073709551616 := by rw [IntKind.wrap_i64]; omega
  have hw2 : IntKind.u64.wrap (n - 18446744073709551616) = n := by rw [IntKind.wrap_u64]; omega
  have h2 : n - 18446744073709551616 < 0 := by omega
  have h3 : ¬ n < 0 := by omega
  have hf : Calls Try.prog 26 #[.int .u64 n] w fun e w' => e = .returned (.tuple #[.int .i64 0, .bool false]) ∧ w = w' := by
    go_enter Try.func26, Try.ntmps26
    go_wp2
    go_ret2
    exact ⟨rfl, rfl⟩
  go_enter Try.func22, Try.ntmps22
  go_wp2_with fail
  refine hf.mono ?_; rintro e w' ⟨rfl, rfl⟩
  go_wp2
  go_ret2
  exact ⟨rfl, rfl⟩
def apB (l r : Int) : Bool := decide (-9223372036854775807 ≤ r - l ∧ r - l ≤ 9223372036854775807)
def apZ (l r : Int) : Int := if apB l r then r - l else 0
set_option maxRecDepth 10000 in
theorem apart_c {l r : Int} (hl0 : 0 ≤ l) (hl1 : l ≤ 18446744073709551615) (hr0 : 0 ≤ r) (hr1 : r ≤ 18446744073709551615) (w : World) : Calls Try.prog 19 #[.int .u64 l, .int .u64 r] w fun e w' => e = .returned (.tuple #[.int .i64 (apZ l r), .bool (apB l r)]) ∧ w = w' := by
  by_cases h : l ≤ r
  · by_cases h2 : r - l ≤ 9223372036854775807
    · have hb : apB l r = true := decide_eq_true (by omega)
      have hz : apZ l r = r - l := by unfold apZ; rw [if_pos hb]
      rw [hb, hz]
      clear hb hz
      go_enter Try.func19, Try.ntmps19
      go_wp2_with fail
      refine (sub_yes h hl0 hr1 _).mono ?_; rintro e w' ⟨rfl, rfl⟩
      go_wp2_with fail
      refine (fits_yes (by omega) h2 _).mono ?_; rintro e w' ⟨rfl, rfl⟩
      go_wp2
      go_ret2
      exact ⟨rfl, rfl⟩
    · have hb : apB l r = false := decide_eq_false (by omega)
      have hz : apZ l r = 0 := by unfold apZ; rw [hb]; rfl
      rw [hb, hz]
      clear hb hz
      go_enter Try.func19, Try.ntmps19
      go_wp2_with fail
      refine (sub_yes h hl0 hr1 _).mono ?_; rintro e w' ⟨rfl, rfl⟩
      go_wp2_with fail
      refine (fits_no (by omega) (by omega) _).mono ?_; rintro e w' ⟨rfl, rfl⟩
      go_wp2
      go_ret2
      exact ⟨rfl, rfl⟩
  · have hw : IntKind.u64.wrap (l - r) = l - r := by rw [IntKind.wrap_u64]; omega
    by_cases h2 : l - r ≤ 9223372036854775807
    · have hb : apB l r = true := decide_eq_true (by omega)
      have hz : apZ l r = -(l - r) := by unfold apZ; rw [if_pos hb]; omega
      have hw2 : IntKind.i64.wrap (-(l - r)) = -(l - r) := by rw [IntKind.wrap_i64]; omega
      rw [hb, hz]
      clear hb hz
      go_enter Try.func19, Try.ntmps19
      go_wp2_with fail
      refine (sub_no (by omega) hr0 hl1 _).mono ?_; rintro e w' ⟨rfl, rfl⟩
      go_wp2_with fail
      refine (fits_yes (by omega) h2 _).mono ?_; rintro e w' ⟨rfl, rfl⟩
      go_wp2
      go_ret2
      first | exact ⟨rfl, rfl⟩ | exact ⟨by rw [← hw2]; simp, rfl⟩ | exact ⟨by simp, rfl⟩
    · have hb : apB l r = false := decide_eq_false (by omega)
      have hz : apZ l r = 0 := by unfold apZ; rw [hb]; rfl
      rw [hb, hz]
      clear hb hz
      go_enter Try.func19, Try.ntmps19
      go_wp2_with fail
      refine (sub_no (by omega) hr0 hl1 _).mono ?_; rintro e w' ⟨rfl, rfl⟩
      go_wp2_with fail
      refine (fits_no (by omega) (by omega) _).mono ?_; rintro e w' ⟨rfl, rfl⟩
      go_wp2
      go_ret2
      exact ⟨rfl, rfl⟩
/-- A skew's cells. -/
def skC (L : List Int) (n : Int) : Array Value := (L.map (Value.int .i64) ++ [Value.int .i64 n]).toArray
def skew (p : Nat) (L : List Int) (n : Int) : SP := raw p (skC L n) 27
theorem skC_size (L : List Int) (n : Int) : (skC L n).size = L.length + 1 := by simp [skC]
theorem skC_get {L : List Int} (n : Int) {j : Nat} (h : j < L.length) : (skC L n)[j]? = some (.int .i64 (gz L j)) := by
  simp only [skC, List.getElem?_toArray]
  rw [List.getElem?_append_left (by simpa using h), List.getElem?_map, gz_get h]
  rfl
theorem skC_last {L : List Int} (n : Int) (h : L.length = 16) : (skC L n)[16]? = some (.int .i64 n) := by
  simp [skC, List.getElem?_append_right, h]
theorem skC_set {L : List Int} (n d : Int) {j : Nat} (h : j < L.length) : (skC L n).setIfInBounds j (.int .i64 d) = skC (L.set j d) n := by
  apply Array.ext'
  simp only [skC, Array.toList_setIfInBounds]
  rw [List.set_append_left _ _ (by simpa using h), List.map_set]
theorem skC_setn {L : List Int} (n m : Int) (h : L.length = 16) : (skC L n).setIfInBounds 16 (.int .i64 m) = skC L m := by
  apply Array.ext'
  simp only [skC, Array.toList_setIfInBounds]
  rw [List.set_append_right _ _ (by simp [h])]
  simp [h]
theorem skew_cell {w0 w : World} {F : List SP} {p : Nat} {L : List Int} {n : Int} (H : At w0 F w) (q : Nat) (hq : F[q]? = some (skew p L n)) {j : Nat} (h : j < L.length) : w.cell? ⟨p, j, none⟩ = some (.int .i64 (gz L j)) := by
  rw [raw_cell (H.heap q hq), skC_get n h]
theorem skew_n {w0 w : World} {F : List SP} {p : Nat} {L : List Int} {n : Int} (H : At w0 F w) (q : Nat) (hq : F[q]? = some (skew p L n)) (h : L.length = 16) : w.cell? ⟨p, 16, none⟩ = some (.int .i64 n) := by
  rw [raw_cell (H.heap q hq), skC_last n h]
set_option maxRecDepth 10000 in
set_option maxHeartbeats 400000 in
theorem len_c {w0 w : World} {F : List SP} {p : Nat} {L : List Int} {n : Nat} (H : At w0 (skew p L n :: F) w) (hL : L.length = 16) :
    Calls Try.prog 15 #[.pointer (some ⟨p, 0, none⟩)] w fun e w' => e = .returned (.int .i64 (min n 16 : Nat)) ∧ w = w' := by
  have hn := skew_n H 0 rfl hL
  obtain ⟨m, hm⟩ : ∃ m : Nat, m = min n 16 := ⟨_, rfl⟩
  have hmin : (if (16 : Int) < (n : Int) then (16 : Int) else (n : Int)) = (m : Int) := by split <;> omega
  rw [← hm]
  clear hm
  go_enter Try.func15, Try.ntmps15
  go_wp2
  go_ret
  exact ⟨rfl, rfl⟩
end Go.Proofs.Ythhmgodnmgmjdaa
