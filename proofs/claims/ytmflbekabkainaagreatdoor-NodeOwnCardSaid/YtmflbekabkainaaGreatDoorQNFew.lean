import Derived.Test.YtmflbekabkainaaGreatDoorQNShown
import Derived.Test.YtmflbekabkainaaGreatDoorQCard
set_option linter.unusedVariables false
set_option linter.unusedSimpArgs false
namespace Go.Hg
open Go.RowKit
def oG (old : Nat) (early late : Int) (delay next : Nat) : OpD := ⟨0, 0, 4, 1, old, early, late, delay, 0, false, 0, next, 0, 0, .slice none 0 0⟩
theorem oG_ok {old delay next : Nat} {early late : Int} (h1 : old < 256) (h2 : -128 ≤ early ∧ early ≤ 127) (h3 : -128 ≤ late ∧ late ≤ 127) (h4 : delay < 4294967296) (h5 : next < 65536) : (oG old early late delay next).ok :=
 ⟨by simp [oG], by simp [oG], by simp [oG], h1, h2, h3, h4, by simp [oG], h5, by simp [oG], _, _, _, rfl⟩
def nodeF : NodeD := (NodeD.client (NodeD.fresh 1 3 9 1) 4 (keyN 1)).1
theorem nodeF_zero : (NodeD.client (NodeD.fresh 1 3 9 1) 4 (keyN 1)).2 = 0 := rfl
theorem nodeF_look : mlook nodeF.cl 4 = some (keyN 1) := rfl
theorem nodeF_ok : nodeF.ok 0 0 := NodeD.client_ok (NodeD.fresh_ok (by omega) 3 9 1) 4 (keyN_length 1)
theorem nodeF_fresh (t : Tg) : nodeF.freshE t = 0 := by
 obtain ⟨e, b⟩ := t
 generalize hk : keyN 1 = k
 unfold nodeF
 rw [hk]
 unfold NodeD.freshE
 exact (if_neg (Nat.not_lt_zero e)).trans rfl
theorem nodeF_take {old delay next : Nat} {early late : Int} (ho : (oG old early late delay next).ok) {now t : Nat} (hn : now < 18446744073709551616) :
    nodeF.takeE ((oG old early late delay next).built now) t = if t / 1000 < 4294967296 ∧ ((oG old early late delay next).epoch now = t / 1000 ∨ (oG old early late delay next).epoch now + 1 = t / 1000) then
     (if t < min ((oG old early late delay next).lo now) ((oG old early late delay next).hi now) then 5 else if max ((oG old early late delay next).lo now) ((oG old early late delay next).hi now) < t then 6 else if 18446744073709551616 ≤ t + delay then 9 else 0) else 11 := by
 obtain ⟨x, P⟩ := OpD.peeled ho hn
 rw [OpD.takeE_built ho hn rfl P nodeF_look, nodeF_fresh]
 rfl
end Go.Hg
namespace Go.Proofs.YtmflbekabkainaaGreatDoor
open Go.RowKit Go.Hg
theorem u64_nat {a : Int} (h : (Lit.int .u64 a).wf = true) : ∃ n : Nat, n < 18446744073709551616 ∧ a = (n : Int) := by
 have e1 : IntKind.u64.min = 0 := rfl
 have e2 : IntKind.u64.max = 18446744073709551615 := rfl
 simp [Lit.wf, e1, e2] at h
 exact ⟨a.toNat, by omega, by omega⟩
theorem i8_in {a : Int} (h : (Lit.int .i8 a).wf = true) : -128 ≤ a ∧ a ≤ 127 := by
 have e1 : IntKind.i8.min = -128 := rfl
 have e2 : IntKind.i8.max = 127 := rfl
 simp [Lit.wf, e1, e2] at h
 omega
theorem and_40 (z : Nat) : bits BinOp.and IntKind.u64 (z : Int) 1099511627775 = ((z % 1099511627776 : Nat) : Int) := by
 have h := bits_and_low_u (z : Int) 40 (by omega)
 rw [show ((2 : Int) ^ 40 - 1) = 1099511627775 by decide, show ((2 : Int) ^ 40) = 1099511627776 by decide] at h
 rw [h]
 omega
theorem few_client {w0 : World} : ∃ ky : Bytes, (∀ (F : List SP) (w : World), At w0 F w → Calls Tryz.prog 16 #[.int .u8 1] w fun e w' => e = .returned (.agg (v8 ky).toArray) ∧ At w0 F w') ∧
    ∀ (p mb : Nat) (F : List SP) (w : World), At w0 (nodeo p mb (NodeD.fresh 1 3 9 1) :: F) w → Calls Tryz.prog 17 #[.pointer (some ⟨p, 0, none⟩), .int .u16 4, .agg (v8 ky).toArray] w fun e w' => e = .returned (.int .i64 0) ∧ At w0 (nodeo p mb nodeF :: F) w' := by
 refine ⟨keyN 1, fun F w H => lkey_c H (k := 1) (by omega), fun p mb F w H => ?_⟩
 have := nclient_c H (NodeD.fresh_ok (by omega) 3 9 1) (who := 4) (by omega) (keyN_length 1)
 rw [nodeF_zero] at this
 exact this
end Go.Proofs.YtmflbekabkainaaGreatDoor
