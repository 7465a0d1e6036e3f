/-
  What is put into one box does not matter to another; two mails alike in a box answer alike of it. Plain: no program in sight but the mail's model.
-/
import Derived.Test.YtogicnbocefkbaaLaw15
namespace Go.Proofs.Ytogicnbocefkbaa
open Go.RowKit Go.Hg
theorem getD_set_ne {L : List (List Body)} {k b : Nat} (h : k ≠ b) (xs : List Body) : (L.set k xs).getD b [] = L.getD b [] := by
  simp only [List.getD_eq_getElem?_getD, List.getElem?_set_ne h]
theorem put_length (L : List (List Body)) (k : Nat) (b : Body) : (putL L k b).length = L.length := by
  unfold putL
  repeat' split
  all_goals simp
theorem fetch_length (L : List (List Body)) (k : Nat) (n : Int) : (fetchL L k n).length = L.length := by
  unfold fetchL
  repeat' split
  all_goals simp
theorem put_other {L : List (List Body)} {k b : Nat} (h : k ≠ b) (x : Body) : (putL L k x).getD b [] = L.getD b [] := by
  unfold putL
  repeat' split
  all_goals first | rfl | exact getD_set_ne h _
theorem fetch_other {L : List (List Body)} {k b : Nat} (h : k ≠ b) (n : Int) : (fetchL L k n).getD b [] = L.getD b [] := by
  unfold fetchL
  repeat' split
  all_goals first | rfl | exact getD_set_ne h _
/-- Alike in one box. -/
def Alike (b : Nat) (L M : List (List Body)) : Prop := L.length = M.length ∧ L.getD b [] = M.getD b []
theorem Alike.len {b : Nat} {L M : List (List Body)} (h : Alike b L M) : lenM L b = lenM M b := by unfold lenM; rw [h.2]
theorem Alike.putE {b : Nat} {L M : List (List Body)} (h : Alike b L M) : putE L b = putE M b := by
  unfold Proofs.Ytogicnbocefkbaa.putE; rw [h.1, h.2]
theorem Alike.fetchE {b : Nat} {L M : List (List Body)} (h : Alike b L M) (n : Int) : fetchE L b n = fetchE M b n := by
  unfold Proofs.Ytogicnbocefkbaa.fetchE; rw [h.1]
theorem Alike.fetchX {b : Nat} {L M : List (List Body)} (h : Alike b L M) (n : Int) : fetchX L b n = fetchX M b n := by
  unfold Proofs.Ytogicnbocefkbaa.fetchX; rw [h.1, h.2]
theorem Alike.put {b : Nat} {L M : List (List Body)} (h : Alike b L M) (x : Body) : Alike b (putL L b x) (putL M b x) := by
  refine ⟨by rw [put_length, put_length, h.1], ?_⟩
  by_cases hk : b < L.length
  · have hk' : b < M.length := by have := h.1; omega
    by_cases hf : (L.getD b []).length < 64
    · rw [(put_facts hk hf x).2.2, (put_facts hk' (by rw [← h.2]; exact hf) x).2.2, h.2]
    · rw [(put_facts_full hk (by omega) x).2, (put_facts_full hk' (by rw [← h.2]; omega) x).2, h.2]
  · rw [(put_facts_none (by omega) x).2, (put_facts_none (by have := h.1; omega) x).2, h.2]
theorem fetchL_out {L : List (List Body)} {k : Nat} {n : Int} (h : L.length ≤ k ∨ n < 0) : fetchL L k n = L := by
  unfold fetchL
  by_cases h1 : L.length ≤ k
  · rw [if_pos h1]
  · rw [if_neg h1, if_pos (by omega)]
theorem Alike.fetch {b : Nat} {L M : List (List Body)} (h : Alike b L M) (n : Int) : Alike b (fetchL L b n) (fetchL M b n) := by
  refine ⟨by rw [fetch_length, fetch_length, h.1], ?_⟩
  by_cases hk : L.length ≤ b ∨ n < 0
  · rw [fetchL_out hk, fetchL_out (by have := h.1; omega), h.2]
  · rw [(fetch_facts (by omega) (by omega)).2.2.2, (fetch_facts (by have := h.1; omega) (by omega)).2.2.2, h.2]
theorem Alike.put_other {b k : Nat} {L M : List (List Body)} (h : Alike b L M) (hk : k ≠ b) (x : Body) : Alike b (putL L k x) M :=
  ⟨by rw [put_length, h.1], by rw [Proofs.Ytogicnbocefkbaa.put_other hk, h.2]⟩
theorem Alike.fetch_other {b k : Nat} {L M : List (List Body)} (h : Alike b L M) (hk : k ≠ b) (n : Int) : Alike b (fetchL L k n) M :=
  ⟨by rw [fetch_length, h.1], by rw [Proofs.Ytogicnbocefkbaa.fetch_other hk, h.2]⟩
/-- Two slices of the same bodies, and what else there is. -/
def Two (w0 : World) (X : List Body) (ua : Option Addr) (uc : Nat) (ub : Option Addr) (ud : Nat) (R : List SP) (w : World) : Prop :=
  At w0 (rows 34 256 (.slice ua X.length uc) X.length (bls X) :: rows 34 256 (.slice ub X.length ud) X.length (bls X) :: R) w
end Go.Proofs.Ytogicnbocefkbaa
