import Derived.Test.YtmflbekabkainaaGreatDoorQNodeS
import Derived.Test.YtmflbekabkainaaGreatDoorQHgD
set_option linter.unusedVariables false
namespace Go.Hg
open Go.RowKit
structure OpD where
 kind : Int
 by_ : Nat
 who : Nat
 key : Nat
 old : Nat
 early : Int
 late : Int
 delay : Nat
 nonce : BitVec 8
 last : Bool
 box : Nat
 next : Nat
 at_ : Int
 turn : BitVec 8
 b : Value
namespace OpD
structure ok (o : OpD) : Prop where
 by_ : o.by_ < 65536
 who : o.who < 65536
 key : o.key < 256
 old : o.old < 256
 early : -128 ≤ o.early ∧ o.early ≤ 127
 late : -128 ≤ o.late ∧ o.late ≤ 127
 delay : o.delay < 4294967296
 box : o.box < 65536
 next : o.next < 65536
 at_ : -9223372036854775808 ≤ o.at_ ∧ o.at_ ≤ 9223372036854775807
 slice : ∃ a n c, o.b = .slice a n c
def cells (o : OpD) : List Value := [.int .i64 o.kind, .int .u16 (o.by_ : Int), .int .u16 (o.who : Int), .int .u8 (o.key : Int), .int .u8 (o.old : Int), .int .i8 o.early, .int .i8 o.late, .int .u32 (o.delay : Int), .int .u8 (iv o.nonce), .bool o.last, .int .u16 (o.box : Int), .int .u16 (o.next : Int), .int .i64 o.at_, .int .u8 (iv o.turn), o.b]
end OpD
def keyN (k : Nat) : Bytes := [1, 2, BitVec.ofNat 8 (k % 4)] ++ zs 29
def keyN2 (k : Nat) : Bytes := [7, 2, BitVec.ofNat 8 (k % 4)] ++ zs 29
theorem keyN_length (k : Nat) : (keyN k).length = 32 := by rw [keyN, List.length_append, zs_length]; rfl
theorem keyN2_length (k : Nat) : (keyN2 k).length = 32 := by rw [keyN2, List.length_append, zs_length]; rfl
def nearN (now : Nat) (by_ : Int) : Nat := if by_ < 0 then now - min (-by_).toNat now else now + min by_.toNat (18446744073709551615 - now)
theorem nearN_lt {now : Nat} (h : now < 18446744073709551616) (by_ : Int) : nearN now by_ < 18446744073709551616 := by
 unfold nearN
 split <;> omega
namespace OpD
def lo (o : OpD) (now : Nat) : Nat := nearN now (-(max o.early (-127)))
def hi (o : OpD) (now : Nat) : Nat := nearN now o.late
def epoch (o : OpD) (now : Nat) : Nat := (now / 1000 + 4294967296 - o.old) % 4294967296
def hop1 (o : OpD) (now : Nat) : HopD := ⟨0, o.who, keyN o.key, o.epoch now, [o.nonce, 9] ++ zs 14, min (o.lo now) (o.hi now), max (o.lo now) (o.hi now), o.delay⟩
def hop2 (o : OpD) : HopD := ⟨o.next, 5, keyN2 o.key, 0, [8] ++ zs 15, 0, 0, 0⟩
theorem hop1_ok {o : OpD} (h : o.ok) {now : Nat} (hn : now < 18446744073709551616) : (o.hop1 now).ok := by
 have h1 := nearN_lt hn (-(max o.early (-127)))
 have h2 := nearN_lt hn o.late
 have h3 : o.lo now < 18446744073709551616 := h1
 have h4 : o.hi now < 18446744073709551616 := h2
 refine ⟨by simp [hop1], h.who, keyN_length _, ?_, ?_, ?_, ?_, h.delay⟩
 · exact Nat.mod_lt _ (by omega)
 · show ([o.nonce, 9] ++ zs 14).length = 16
   rw [List.length_append, zs_length]; rfl
 · show min (o.lo now) (o.hi now) < _
   omega
 · show max (o.lo now) (o.hi now) < _
   omega
theorem hop2_ok {o : OpD} (h : o.ok) : o.hop2.ok := by
 refine ⟨h.next, by simp [hop2], keyN2_length _, by simp [hop2], ?_, by simp [hop2], by simp [hop2], by simp [hop2]⟩
 show ([8] ++ zs 15).length = 16
 rw [List.length_append, zs_length]; rfl
def hops (o : OpD) (h : o.ok) (now : Nat) (hn : now < 18446744073709551616) : List HopO := if o.last then [⟨o.hop1 now, hop1_ok h hn⟩] else [⟨o.hop1 now, hop1_ok h hn⟩, ⟨o.hop2, hop2_ok h⟩]
theorem hops_le (o : OpD) (h : o.ok) (now : Nat) (hn : now < 18446744073709551616) : ∀ x ∈ o.hops h now hn, x.1.lo ≤ x.1.hi := fun x hx => by
 unfold hops at hx
 split at hx
 · simp at hx; subst hx; show min _ _ ≤ max _ _; omega
 · simp at hx
   rcases hx with rfl | rfl
   · show min _ _ ≤ max _ _; omega
   · exact Nat.le_refl _
theorem hops_len (o : OpD) (h : o.ok) (now : Nat) (hn : now < 18446744073709551616) : (o.hops h now hn).length = if o.last then 1 else 2 := by
 unfold hops
 split <;> rfl
def plain (o : OpD) (now : Nat) : List HopD := if o.last then [o.hop1 now] else [o.hop1 now, o.hop2]
theorem hops_map (o : OpD) (h : o.ok) (now : Nat) (hn : now < 18446744073709551616) : (o.hops h now hn).map (·.1) = o.plain now := by
 unfold hops plain
 split <;> rfl
def pkt (o : OpD) (now : Nat) : PktD := (buildOf (o.plain now) o.box (zs 256)).getD PktD.zero
theorem pkt_some {o : OpD} (h : o.ok) {now : Nat} (hn : now < 18446744073709551616) : buildOf (o.plain now) o.box (zs 256) = some (o.pkt now) ∧ BkInv o.box (zs 256) (o.hops h now hn) 0 (o.pkt now) := by
 have hl := hops_len o h now hn
 obtain ⟨p, hp, hi⟩ := back_start (L := o.hops h now hn) h.box (zs_length 256) (by rw [hl]; split <;> omega) (by rw [hl]; split <;> omega) (hops_le o h now hn)
 rw [hops_map] at hp
 have : o.pkt now = p := by rw [pkt, hp]; rfl
 rw [this]
 exact ⟨hp, hi⟩
theorem pkt_ok {o : OpD} (h : o.ok) {now : Nat} (hn : now < 18446744073709551616) : (o.pkt now).ok := (pkt_some h hn).2.ok
def place (o : OpD) : Nat := (o.at_ % 65536).toNat % 614
def built (o : OpD) (now : Nat) : Bytes := (packOf (o.pkt now)).set o.place ((packOf (o.pkt now)).getD o.place 0 ^^^ o.turn)
theorem built_length {o : OpD} (h : o.ok) {now : Nat} (hn : now < 18446744073709551616) : (o.built now).length = 614 := by rw [built, List.length_set, packOf_length (pkt_ok h hn)]
theorem built_plain {o : OpD} (h : o.ok) {now : Nat} (hn : now < 18446744073709551616) (ht : o.turn = 0) : o.built now = packOf (o.pkt now) := by
 unfold built
 rw [ht]
 have hl := packOf_length (pkt_ok h hn)
 have hp : o.place < (packOf (o.pkt now)).length := by rw [hl]; exact Nat.mod_lt _ (by omega)
 refine List.ext_getElem? fun i => ?_
 rw [List.getElem?_set]
 split
 · rename_i hi
   subst hi
   rw [List.getD_eq_getElem?_getD, List.getElem?_eq_getElem hp]
   simp
 · rfl
end OpD
end Go.Hg
