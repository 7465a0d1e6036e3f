import Derived.Test.YtmflbekabkainaaGreatDoorQHgA
import Derived.Great.BuildSlice
import Derived.Laws.CopyRow
set_option linter.unusedVariables false
namespace Go.Hg
open Go.RowKit
inductive Tr where
 | nil : Tr
 | one : Nat → Nat → Tr → Tr
 | two : Nat → Nat → Tr → Tr → Tr
 | three : Nat → Nat → Nat → Tr → Tr → Tr → Tr
def Tr.size : Tr → Nat
 | .nil => 0
 | .one _ _ r => r.size + 1
 | .two _ _ r _ => r.size + 1
 | .three _ _ _ r _ _ => r.size + 1
section
variable {P : Program} {ops : Array Oper} {Q : Exit → Act → World → Prop} {md : Region.Mode} {S : World → Prop} {ex : List Nat}
def okT (md : Region.Mode) (ops : Array Oper) (ex : List Nat) : Tr → Array Bool → Bool
 | .nil, listed => Region.ready md ops listed == []
 | .one i 0 r, listed => (Region.ready md ops listed == [i]) && okT md ops ex r (listed.setIfInBounds i true)
 | .one i (k + 1) r, listed => Region.free md ops listed i && (Region.ready md ops listed).contains i && (k == 1 || exOK md ops ex i) && decide (i < ops.size) && okT md ops ex r (listed.setIfInBounds i true)
 | .two i j r s, listed => (Region.ready md ops listed == [i, j]) && (r.size == s.size) && okT md ops ex r (listed.setIfInBounds i true) && okT md ops ex s (listed.setIfInBounds j true)
 | .three i j k r s t, listed => (Region.ready md ops listed == [i, j, k]) && (r.size == s.size && r.size == t.size) && (okT md ops ex r (listed.setIfInBounds i true) && okT md ops ex s (listed.setIfInBounds j true) && okT md ops ex t (listed.setIfInBounds k true))
variable {os : Array Oper} {t s u : Tr}
end
end Go.Hg
namespace Go.Hg
open Go.RowKit
section
variable {α : Type} {P : Program} {e : TypeId} {size by_ : Nat} {c : α → List Value} {w w0 : World} {L : List SP}
theorem lrow_src_zero (a : Addr) (q : Nat) : Src P size w (.slice (some a) 0 q) ([] : List α).length (cl c []) :=
 Src.some (by simp [cl]) (fun j u hj => by simp [cl] at hj) (fun u h => by simp [cl] at h)
end
end Go.Hg
namespace Go.Hg
open Go.RowKit
def ic (k : IntKind) (x : Int) : List Value := [.int k x]
def gz (xs : List Int) (i : Nat) : Int := xs.getD i 0
def Sees (w0 : World) (F : List SP) (k : IntKind) (v : Value) (xs : List Int) : Prop :=
 ∃ a cap b off, v = .slice a xs.length cap ∧ xs.length ≤ cap ∧ (0 < xs.length → a = some ⟨b, off, none⟩) ∧ ∀ w', At w0 F w' → ∀ i, i < xs.length → w'.cell? ⟨b, off + i, none⟩ = some (.int k (gz xs i))
section
variable {w0 w : World} {F : List SP} {k : IntKind} {v : Value} {xs : List Int} {P : Program} {e : TypeId} {by_ : Nat}
theorem Sees.more (h : Sees w0 F k v xs) (X : SP) : Sees w0 (X :: F) k v xs := by
 obtain ⟨a, cap, b, off, h1, h2, h3, h4⟩ := h
 exact ⟨a, cap, b, off, h1, h2, h3, fun w' H i hi => h4 w' H.tail i hi⟩
theorem cl_ic (xs : List Int) : cl (ic k) xs = xs.map (Value.int k) := by
 induction xs with
 | nil => rfl
 | cons x xs ih => show ic k x ++ cl (ic k) xs = _; rw [ih]; rfl
theorem Sees.take (h : Sees w0 F k v xs) : ∃ a cap, v = .slice a xs.length cap ∧ xs.length ≤ cap ∧ ∀ m, m ≤ xs.length → Sees w0 F k (.slice a m cap) (xs.take m) := by
 obtain ⟨a, cap, b, off, h1, h2, h3, h4⟩ := h
 refine ⟨a, cap, h1, h2, fun m hm => ?_⟩
 have hl : (xs.take m).length = m := by rw [List.length_take]; omega
 refine ⟨a, cap, b, off, by rw [hl], by omega, fun h0 => h3 (by omega), fun w' H i hi => ?_⟩
 rw [hl] at hi
 have e : gz (xs.take m) i = gz xs i := by simp only [gz, List.getD_eq_getElem?_getD, List.getElem?_take, if_pos hi]
 rw [e]
 exact h4 w' H i (by omega)
end
end Go.Hg
namespace Go.Hg
open Go.RowKit
section
variable {P : Program} {e : TypeId} {by_ : Nat} {k : IntKind} {w w0 : World} {L : List SP}
variable {o : Oper} {a : Act} {K : Act → World → Prop} {Q : Exit → Act → World → Prop}
theorem wp_lits (E : El P e 1 by_ (ic k)) (t : TypeId) (ht : P.underlying t = some (.slice e)) (len : Nat) (parts : Array (Nat × Operand)) (ho : o.op = .buildSlice t len parts) (zs : List Int) (hlen : len = zs.length) (hpos : 0 < len) (hsmall : len ≤ 2 ^ 24)
    (hparts : parts.toList = (zs.zipIdx 0).map fun x => (x.2, Operand.const (Value.int k x.1))) (H : At w0 L w)
    (h : ∀ b w', At w0 (lrow e 1 (ic k) (.slice (some ⟨b, 0, none⟩) zs.length zs.length) zs :: L) w' → K (a.put o.dst (.slice (some ⟨b, 0, none⟩) len len)) w') : OWp P o a w K Q := by
 obtain ⟨z, hi, hzs⟩ := E.info
 obtain ⟨i, hi2, hz, hsz, hby⟩ := info_of hi
 refine owp (wp_buildSlice t e len parts ho (zs.map (Value.int k)).toArray i z ht hi2 hz (by rw [hsz]; omega) (by rw [hsz]; omega) ?_ ?_)
 · rw [parts_eval a parts k zs hparts, hsz]
   exact Great.fill_flat _ _ (fun v hv => by obtain ⟨n, _, rfl⟩ := List.mem_map.1 hv; rfl) (by simp [hlen])
 · refine h _ _ ?_
   have H2 := At.rows_new (H.alloc (.cells (zs.map (Value.int k)).toArray e)) (n := zs.length) (cap := zs.length) (size := 1) (xs := zs.map (Value.int k)) (Nat.le_refl _) (by simp only [maxLen]; omega) (by simp) (by simp; exact List.take_of_length_le (by simp))
   unfold lrow
   rw [cl_ic]
   exact H2
end
end Go.Hg
namespace Go.Hg
open Go.RowKit
def iv {n : Nat} (x : BitVec n) : Int := (x.toNat : Int)
theorem iv_nonneg {n : Nat} (x : BitVec n) : 0 ≤ iv x := by unfold iv; omega
theorem iv_lt {n : Nat} (x : BitVec n) : iv x < ((2 ^ n : Nat) : Int) := by unfold iv; have := x.isLt; omega
theorem iv_inj {n : Nat} {x y : BitVec n} : iv x = iv y ↔ x = y := by unfold iv; rw [Int.natCast_inj, BitVec.toNat_inj]
theorem iv8_le (x : BitVec 8) : iv x ≤ 255 := by have := iv_lt x; omega
theorem iv32_le (x : BitVec 32) : iv x ≤ 4294967295 := by have := iv_lt x; omega
theorem iv64_le (x : BitVec 64) : iv x ≤ 18446744073709551615 := by have := iv_lt x; omega
theorem ofInt_iv {n : Nat} (x : BitVec n) : BitVec.ofInt n (iv x) = x := by
 unfold iv
 rw [BitVec.ofInt_natCast, BitVec.ofNat_toNat, BitVec.setWidth_eq]
theorem wrap8 (z : Int) : IntKind.u8.wrap z = z % 256 := by simp [IntKind.wrap, IntKind.bits, IntKind.signed]
theorem wrap32 (z : Int) : IntKind.u32.wrap z = z % 4294967296 := by simp [IntKind.wrap, IntKind.bits, IntKind.signed]
theorem wrap64 (z : Int) : IntKind.u64.wrap z = z % 18446744073709551616 := by simp [IntKind.wrap, IntKind.bits, IntKind.signed]
theorem iv_add32 (a b : BitVec 32) : IntKind.u32.wrap (iv a + iv b) = iv (a + b) := by
 rw [wrap32]
 unfold iv
 rw [BitVec.toNat_add]
 omega
theorem iv_xor8 (a b : BitVec 8) : bits .xor .u8 (iv a) (iv b) = iv (a ^^^ b) := by
 have e : bits .xor .u8 (iv a) (iv b) = IntKind.u8.wrap (iv (BitVec.ofInt 8 (iv a) ^^^ BitVec.ofInt 8 (iv b))) := rfl
 rw [e, ofInt_iv, ofInt_iv, wrap8]
 have := iv8_le (a ^^^ b)
 have := iv_nonneg (a ^^^ b)
 omega
theorem iv_or8 (a b : BitVec 8) : bits .or .u8 (iv a) (iv b) = iv (a ||| b) := by
 have e : bits .or .u8 (iv a) (iv b) = IntKind.u8.wrap (iv (BitVec.ofInt 8 (iv a) ||| BitVec.ofInt 8 (iv b))) := rfl
 rw [e, ofInt_iv, ofInt_iv, wrap8]
 have := iv8_le (a ||| b)
 have := iv_nonneg (a ||| b)
 omega
theorem iv_xor32 (a b : BitVec 32) : bits .xor .u32 (iv a) (iv b) = iv (a ^^^ b) := by
 have e : bits .xor .u32 (iv a) (iv b) = IntKind.u32.wrap (iv (BitVec.ofInt 32 (iv a) ^^^ BitVec.ofInt 32 (iv b))) := rfl
 rw [e, ofInt_iv, ofInt_iv, wrap32]
 have := iv32_le (a ^^^ b)
 have := iv_nonneg (a ^^^ b)
 omega
theorem iv_or32 (a b : BitVec 32) : bits .or .u32 (iv a) (iv b) = iv (a ||| b) := by
 have e : bits .or .u32 (iv a) (iv b) = IntKind.u32.wrap (iv (BitVec.ofInt 32 (iv a) ||| BitVec.ofInt 32 (iv b))) := rfl
 rw [e, ofInt_iv, ofInt_iv, wrap32]
 have := iv32_le (a ||| b)
 have := iv_nonneg (a ||| b)
 omega
theorem iv_and32 (a b : BitVec 32) : bits .and .u32 (iv a) (iv b) = iv (a &&& b) := by
 have e : bits .and .u32 (iv a) (iv b) = IntKind.u32.wrap (iv (BitVec.ofInt 32 (iv a) &&& BitVec.ofInt 32 (iv b))) := rfl
 rw [e, ofInt_iv, ofInt_iv, wrap32]
 have := iv32_le (a &&& b)
 have := iv_nonneg (a &&& b)
 omega
theorem iv_or64 (a b : BitVec 64) : bits .or .u64 (iv a) (iv b) = iv (a ||| b) := by
 have e : bits .or .u64 (iv a) (iv b) = IntKind.u64.wrap (iv (BitVec.ofInt 64 (iv a) ||| BitVec.ofInt 64 (iv b))) := rfl
 rw [e, ofInt_iv, ofInt_iv, wrap64]
 have := iv64_le (a ||| b)
 have := iv_nonneg (a ||| b)
 omega
theorem iv_not32 (a : BitVec 32) : bits .xor .u32 4294967295 (iv a) = iv (~~~a) := by
 have e : (4294967295 : Int) = iv (BitVec.allOnes 32) := by decide
 rw [e, iv_xor32, BitVec.allOnes_xor]
theorem iv_shr {n : Nat} (a : BitVec n) (k : Nat) : iv a / 2 ^ k = iv (a >>> k) := by
 unfold iv
 rw [BitVec.toNat_ushiftRight, Nat.shiftRight_eq_div_pow, Int.natCast_ediv]
 simp
theorem iv_shl32 (a : BitVec 32) (k : Nat) : IntKind.u32.wrap (iv a * 2 ^ k) = iv (a <<< k) := by
 rw [wrap32]
 unfold iv
 rw [BitVec.toNat_shiftLeft, Nat.shiftLeft_eq, Int.natCast_emod]
 simp
theorem iv_shl64 (a : BitVec 64) (k : Nat) : IntKind.u64.wrap (iv a * 2 ^ k) = iv (a <<< k) := by
 rw [wrap64]
 unfold iv
 rw [BitVec.toNat_shiftLeft, Nat.shiftLeft_eq, Int.natCast_emod]
 simp
theorem iv_8_32 (a : BitVec 8) : IntKind.u32.wrap (iv a) = iv (a.setWidth 32) := by
 have := iv8_le a
 have := iv_nonneg a
 rw [wrap32]
 unfold iv at *
 rw [BitVec.toNat_setWidth]
 omega
theorem iv_8_64 (a : BitVec 8) : IntKind.u64.wrap (iv a) = iv (a.setWidth 64) := by
 have := iv8_le a
 have := iv_nonneg a
 rw [wrap64]
 unfold iv at *
 rw [BitVec.toNat_setWidth]
 omega
theorem iv_32_8 (a : BitVec 32) : IntKind.u8.wrap (iv a) = iv (a.setWidth 8) := by
 rw [wrap8]
 unfold iv
 rw [BitVec.toNat_setWidth]
 omega
theorem iv_64_8 (a : BitVec 64) : IntKind.u8.wrap (iv a) = iv (a.setWidth 8) := by
 rw [wrap8]
 unfold iv
 rw [BitVec.toNat_setWidth]
 omega
def rl (x : BitVec 32) (s : Nat) : BitVec 32 := x <<< s ||| x >>> (32 - s)
def rr (x : BitVec 32) (s : Nat) : BitVec 32 := rl x (32 - s)
def c8 (b : BitVec 8) : List Value := [.int .u8 (iv b)]
def c32 (b : BitVec 32) : List Value := [.int .u32 (iv b)]
def v8 (bs : List (BitVec 8)) : List Value := bs.map fun b => .int .u8 (iv b)
def v32 (ws : List (BitVec 32)) : List Value := ws.map fun w => .int .u32 (iv w)
theorem v8_length (bs : List (BitVec 8)) : (v8 bs).length = bs.length := by simp [v8]
theorem v32_length (ws : List (BitVec 32)) : (v32 ws).length = ws.length := by simp [v32]
theorem v8_one (bs : List (BitVec 8)) : ∀ u ∈ v8 bs, u.oneCell' = true := fun u hu => by
 obtain ⟨b, _, rfl⟩ := List.mem_map.1 hu
 rfl
theorem v32_one (bs : List (BitVec 32)) : ∀ u ∈ v32 bs, u.oneCell' = true := fun u hu => by
 obtain ⟨b, _, rfl⟩ := List.mem_map.1 hu
 rfl
theorem cl_c8 (bs : List (BitVec 8)) : cl c8 bs = v8 bs := by
 induction bs with
 | nil => rfl
 | cons b bs ih =>
  show c8 b ++ cl c8 bs = _
  rw [ih]
  rfl
end Go.Hg
namespace Go.Hg
open Go.RowKit
def gb (bs : List (BitVec 8)) (i : Nat) : BitVec 8 := bs.getD i 0
def gw (ws : List (BitVec 32)) (i : Nat) : BitVec 32 := ws.getD i 0
theorem gb_get {bs : List (BitVec 8)} {i : Nat} (h : i < bs.length) : bs[i]? = some (gb bs i) := by simp [gb, List.getD, h]
theorem gw_get {ws : List (BitVec 32)} {i : Nat} (h : i < ws.length) : ws[i]? = some (gw ws i) := by simp [gw, List.getD, h]
theorem gw_of {ws : List (BitVec 32)} {i : Nat} {x : BitVec 32} (h : ws[i]? = some x) : gw ws i = x := by simp [gw, List.getD, h]
theorem gb_of {ws : List (BitVec 8)} {i : Nat} {x : BitVec 8} (h : ws[i]? = some x) : gb ws i = x := by simp [gb, List.getD, h]
theorem v8_get {bs : List (BitVec 8)} {i : Nat} (h : i < bs.length) : (v8 bs)[i]? = some (.int .u8 (iv (gb bs i))) := by
 unfold v8
 rw [List.getElem?_map, gb_get h]
 rfl
theorem v32_get {bs : List (BitVec 32)} {i : Nat} (h : i < bs.length) : (v32 bs)[i]? = some (.int .u32 (iv (gw bs i))) := by
 unfold v32
 rw [List.getElem?_map, gw_get h]
 rfl
theorem v32_set (ws : List (BitVec 32)) (i : Nat) (x : BitVec 32) : (v32 ws).set i (.int .u32 (iv x)) = v32 (ws.set i x) := by simp [v32, List.map_set]
theorem v8_set (ws : List (BitVec 8)) (i : Nat) (x : BitVec 8) : (v8 ws).set i (.int .u8 (iv x)) = v8 (ws.set i x) := by simp [v8, List.map_set]
def be4 (b0 b1 b2 b3 : BitVec 8) : BitVec 32 := b0.setWidth 32 <<< 24 ||| b1.setWidth 32 <<< 16 ||| b2.setWidth 32 <<< 8 ||| b3.setWidth 32
def wlow (x : BitVec 32) : BitVec 32 := rr x 7 ^^^ rr x 18 ^^^ x >>> 3
def whigh (y : BitVec 32) : BitVec 32 := rr y 17 ^^^ rr y 19 ^^^ y >>> 10
def wnext (blk : List (BitVec 8)) (ws : List (BitVec 32)) (i : Nat) : BitVec 32 :=
 if i < 16 then be4 (gb blk (4 * i)) (gb blk (4 * i + 1)) (gb blk (4 * i + 2)) (gb blk (4 * i + 3))
 else whigh (gw ws (i - 2)) + gw ws (i - 7) + wlow (gw ws (i - 15)) + gw ws (i - 16)
def wsOf (blk : List (BitVec 8)) : Nat → List (BitVec 32)
 | 0 => []
 | i + 1 => wsOf blk i ++ [wnext blk (wsOf blk i) i]
theorem wsOf_length (blk : List (BitVec 8)) : ∀ i, (wsOf blk i).length = i
 | 0 => rfl
 | i + 1 => by simp [wsOf, wsOf_length blk i]
def wsP (blk : List (BitVec 8)) (i : Nat) : List (BitVec 32) := wsOf blk i ++ List.replicate (64 - i) 0
theorem wsP_length (blk : List (BitVec 8)) {i : Nat} (h : i ≤ 64) : (wsP blk i).length = 64 := by simp [wsP, wsOf_length]; omega
theorem wsP_gw (blk : List (BitVec 8)) {i j : Nat} (h : j < i) : gw (wsP blk i) j = gw (wsOf blk i) j := by
 unfold gw wsP
 simp only [List.getD_eq_getElem?_getD]
 rw [List.getElem?_append_left (by rw [wsOf_length]; exact h)]
theorem wsP_succ (blk : List (BitVec 8)) {i : Nat} (h : i < 64) : (wsP blk i).set i (wnext blk (wsOf blk i) i) = wsP blk (i + 1) := by
 unfold wsP
 rw [List.set_append_right _ _ (by rw [wsOf_length]; omega), wsOf_length, Nat.sub_self, show 64 - i = (64 - (i + 1)) + 1 by omega, List.replicate_succ]
 simp [wsOf]
theorem wsP_full (blk : List (BitVec 8)) : wsP blk 64 = wsOf blk 64 := by simp [wsP]
def chf (e f g : BitVec 32) : BitVec 32 := e &&& f ^^^ ~~~e &&& g
def majf (a b c : BitVec 32) : BitVec 32 := a &&& b ^^^ a &&& c ^^^ b &&& c
def tf (v : List (BitVec 32)) (k w : BitVec 32) : BitVec 32 := gw v 7 + (rr (gw v 4) 6 ^^^ rr (gw v 4) 11 ^^^ rr (gw v 4) 25) + chf (gw v 4) (gw v 5) (gw v 6) + k + w
def uf (v : List (BitVec 32)) : BitVec 32 := (rr (gw v 0) 2 ^^^ rr (gw v 0) 13 ^^^ rr (gw v 0) 22) + majf (gw v 0) (gw v 1) (gw v 2)
def rnd (v : List (BitVec 32)) (k w : BitVec 32) : List (BitVec 32) := [tf v k w + uf v, gw v 0, gw v 1, gw v 2, gw v 3 + tf v k w, gw v 4, gw v 5, gw v 6]
def rnds (K : List (BitVec 32)) (W : List (BitVec 32)) (v : List (BitVec 32)) : Nat → List (BitVec 32)
 | 0 => v
 | i + 1 => rnd (rnds K W v i) (gw K i) (gw W i)
theorem rnds_length (K W : List (BitVec 32)) {v : List (BitVec 32)} (h : v.length = 8) : ∀ i, (rnds K W v i).length = 8
 | 0 => h
 | i + 1 => rfl
def addw (h v : List (BitVec 32)) (n : Nat) : List (BitVec 32) := (List.range 8).map fun i => if i < n then gw h i + gw v i else gw h i
theorem addw_length (h v : List (BitVec 32)) (n : Nat) : (addw h v n).length = 8 := by simp [addw]
theorem addw_zero {h : List (BitVec 32)} (v : List (BitVec 32)) (hl : h.length = 8) : addw h v 0 = h := by
 apply List.ext_getElem?
 intro i
 unfold addw
 by_cases hi : i < 8
 · rw [List.getElem?_map, List.getElem?_range hi, gw_get (by omega)]
   simp
 · rw [List.getElem?_eq_none (by simp; omega), List.getElem?_eq_none (by omega)]
theorem addw_get {h v : List (BitVec 32)} {n i : Nat} (hi : i < 8) : gw (addw h v n) i = if i < n then gw h i + gw v i else gw h i := gw_of (by
 unfold addw
 rw [List.getElem?_map, List.getElem?_range hi]
 rfl)
theorem addw_succ {h v : List (BitVec 32)} {n : Nat} (hn : n < 8) : (addw h v n).set n (gw (addw h v n) n + gw v n) = addw h v (n + 1) := by
 rw [addw_get hn, if_neg (by omega)]
 apply List.ext_getElem?
 intro i
 by_cases hi : i < 8
 · by_cases e : n = i
   · subst e
     rw [List.getElem?_set_self (by rw [addw_length]; exact hn), gw_get (by rw [addw_length]; exact hn), addw_get hn, if_pos (by omega)]
   · rw [List.getElem?_set_ne e, gw_get (by rw [addw_length]; exact hi), gw_get (by rw [addw_length]; exact hi), addw_get hi, addw_get hi]
     by_cases hin : i < n
     · rw [if_pos hin, if_pos (by omega)]
     · rw [if_neg hin, if_neg (by omega)]
 · rw [List.getElem?_eq_none (by rw [List.length_set, addw_length]; omega), List.getElem?_eq_none (by rw [addw_length]; omega)]
def mixB (K : List (BitVec 32)) (h : List (BitVec 32)) (blk : List (BitVec 8)) : List (BitVec 32) := addw h (rnds K (wsOf blk 64) h 64) 8
theorem mixB_length (K h : List (BitVec 32)) (blk : List (BitVec 8)) : (mixB K h blk).length = 8 := addw_length _ _ _
def hN (K H : List (BitVec 32)) (M : List (BitVec 8)) : Nat → List (BitVec 32)
 | 0 => H
 | n + 1 => mixB K (hN K H M n) ((M.drop (64 * n)).take 64)
theorem hN_length (K : List (BitVec 32)) {H : List (BitVec 32)} (hH : H.length = 8) (M : List (BitVec 8)) : ∀ n, (hN K H M n).length = 8
 | 0 => hH
 | n + 1 => mixB_length _ _ _
theorem hN_append (K H : List (BitVec 32)) (M X : List (BitVec 8)) : ∀ n, 64 * n ≤ M.length → hN K H (M ++ X) n = hN K H M n
 | 0, _ => rfl
 | n + 1, h => by
  unfold hN
  rw [hN_append K H M X n (by omega)]
  congr 1
  rw [List.drop_append_of_le_length (by omega), List.take_append_of_le_length (by simp; omega)]
def hOf (K H : List (BitVec 32)) (M : List (BitVec 8)) : List (BitVec 32) := hN K H M (M.length / 64)
def be8 (n : BitVec 64) : List (BitVec 8) := [56, 48, 40, 32, 24, 16, 8, 0].map fun s => (n >>> s).setWidth 8
def padOf (n : Nat) : List (BitVec 8) := [128] ++ List.replicate ((119 - n % 64) % 64) 0 ++ be8 (BitVec.ofNat 64 n * 8)
def out4 (x : BitVec 32) : List (BitVec 8) := [(x >>> 24).setWidth 8, (x >>> 16).setWidth 8, (x >>> 8).setWidth 8, x.setWidth 8]
def shaOf (K H : List (BitVec 32)) (M : List (BitVec 8)) : List (BitVec 8) := (hOf K H (M ++ padOf M.length)).flatMap out4
theorem shaOf_length (K : List (BitVec 32)) {H : List (BitVec 32)} (hH : H.length = 8) (M : List (BitVec 8)) : (shaOf K H M).length = 32 := by
 have h8 : (hOf K H (M ++ padOf M.length)).length = 8 := hN_length K hH _ _
 unfold shaOf
 generalize hOf K H (M ++ padOf M.length) = h at h8
 match h, h8 with
 | [a, b, c, d, e, f, g, i], _ => rfl
end Go.Hg
namespace Go.Hg
open Go.RowKit
theorem v32_put (ws : List (BitVec 32)) (i : Nat) (x : BitVec 32) : (v32 ws).toArray.setIfInBounds i (.int .u32 (iv x)) = (v32 (ws.set i x)).toArray := by
 apply Array.ext'
 rw [Array.toList_setIfInBounds]
 exact v32_set ws i x
theorem v8_put (ws : List (BitVec 8)) (i : Nat) (x : BitVec 8) : (v8 ws).toArray.setIfInBounds i (.int .u8 (iv x)) = (v8 (ws.set i x)).toArray := by
 apply Array.ext'
 rw [Array.toList_setIfInBounds]
 exact v8_set ws i x
section
variable {P : Program} {o : Oper} {a : Act} {w w0 : World} {L : List SP} {K : Act → World → Prop} {Q : Exit → Act → World → Prop}
theorem wp_st32 (ty : TypeId) (x y : Operand) (ho : o.op = .store ty x y) {b i : Nat} {v : BitVec 32} (hx : a.eval x = .pointer (some ⟨b, i, none⟩)) (hy : a.eval y = .int .u32 (iv v)) (hi : (P.info? ty).map (·.size) = some 1)
    (k : Nat) {ws : List (BitVec 32)} {t : TypeId} (H : At w0 L w) (hk : L[k]? = some (raw b (v32 ws).toArray t)) (hlt : i < ws.length)
    (h : ∀ w', At w0 (L.set k (raw b (v32 (ws.set i v)).toArray t)) w' → K (a.put o.dst undef) w') : OWp P o a w K Q := by
 refine wp_store_sl ty x y ho hx hy hi rfl k H hk (by simp [v32_length, hlt]) fun w' H' => ?_
 rw [v32_put] at H'
 exact h w' H'
theorem wp_st8 (ty : TypeId) (x y : Operand) (ho : o.op = .store ty x y) {b i : Nat} {v : BitVec 8} (hx : a.eval x = .pointer (some ⟨b, i, none⟩)) (hy : a.eval y = .int .u8 (iv v)) (hi : (P.info? ty).map (·.size) = some 1)
    (k : Nat) {ws : List (BitVec 8)} {t : TypeId} (H : At w0 L w) (hk : L[k]? = some (raw b (v8 ws).toArray t)) (hlt : i < ws.length)
    (h : ∀ w', At w0 (L.set k (raw b (v8 (ws.set i v)).toArray t)) w' → K (a.put o.dst undef) w') : OWp P o a w K Q := by
 refine wp_store_sl ty x y ho hx hy hi rfl k H hk (by simp [v8_length, hlt]) fun w' H' => ?_
 rw [v8_put] at H'
 exact h w' H'
theorem wp_copy_in (d s : Operand) (dT sT : TypeId) (ho : o.op = .call { callee := .builtin .copy, args := #[d, s], argTypes := #[dT, sT] }) {e : TypeId} (hu : P.underlying dT = some (.slice e)) (he : (P.info? e).map (·.size) = some 1)
    {g off dLen dCap : Nat} {src : Addr} {sLen sCap : Nat} (hd : a.eval d = .slice (some ⟨g, off, none⟩) dLen dCap) (hs : a.eval s = .slice (some src) sLen sCap)
    (k : Nat) {cur : List Value} {t : TypeId} (H : At w0 L w) (hk : L[k]? = some (raw g cur.toArray t)) {cs : List Value} (hn : cs.length = min sLen dLen) (hsrc : ∀ j v, cs[j]? = some v → w.cell? (src.add j) = some v) (hfit : off + cs.length ≤ cur.length) (h1 : ∀ v ∈ cs, v.oneCell' = true)
    (h : ∀ w', At w0 (L.set k (raw g (cur.take off ++ cs ++ cur.drop (off + cs.length)).toArray t)) w' → K (a.put o.dst (goInt cs.length)) w') : OWp P o a w K Q := by
 have hb := H.heap k hk
 have hr := run_copy_row (P := P) w dT sT o.type e g off dLen dCap src sLen sCap cur.toArray t cs hu he hb hn hsrc (by simpa using hfit) h1
 have H' := (H.pull k hk).setRow (cs' := (cur.take off ++ cs ++ cur.drop (off + cs.length)).toArray)
 have h2 := h _ (H'.perm (by
  obtain ⟨hl, _⟩ := List.getElem?_eq_some_iff.1 hk
  have h3 := perm_erase (L.set k (raw g (cur.take off ++ cs ++ cur.drop (off + cs.length)).toArray t)) k (raw g (cur.take off ++ cs ++ cur.drop (off + cs.length)).toArray t) (by simp [hl])
  rwa [List.eraseIdx_set_eq] at h3))
 refine owp ?_
 unfold Oper.wp execOp
 simp only [ho, resolve, invoke, BigFrame.builtin_copy, Sem.run_bind, Sem.run_pure, Result.andThen_ok, List.map_toArray, List.map_cons, List.map_nil, hd, hs, hr]
 exact h2
end
section
variable {P : Program} {o : Oper} {a : Act}
theorem run_index_agg {t e : TypeId} {n i : Nat} {cs : List Value} {v : Value} (ht : P.underlying t = some (.array n e)) (hag : ∀ w, (isAgg e).run P w = .ok false w) (hs : ∀ w, (sizeOf e).run P w = .ok 1 w) (hi : i < n) (hv : cs[i]? = some v) (w : World) :
    (Instr.index t (.agg cs.toArray) (.int .i64 (i : Int))).run P w = .ok v w := by
 have h1 : (0 : Int) ≤ (i : Int) ∧ (i : Int) < (n : Int) := by omega
 simp [Instr.index, asIntOf, Sem.run_bind, run_underlying ht, h1, part, hag, hs, hv, hi]
end
end Go.Hg
namespace Go.Hg
open Go.RowKit
def beN : Nat → Nat → List (BitVec 8)
 | 0, _ => []
 | k + 1, n => BitVec.ofNat 8 (n >>> (8 * k)) :: beN k n
def deF (a : Nat) (bs : List (BitVec 8)) : Nat := bs.foldl (fun a b => a * 256 + b.toNat) a
def deN (bs : List (BitVec 8)) : Nat := deF 0 bs
theorem beN_length : ∀ k n, (beN k n).length = k
 | 0, _ => rfl
 | k + 1, n => by simp [beN, beN_length k n]
theorem pow8 (k : Nat) : 2 ^ (8 * k) = 256 ^ k := by rw [Nat.pow_mul]
theorem deF_cons (a : Nat) (b : BitVec 8) (bs : List (BitVec 8)) : deF a (b :: bs) = deF (a * 256 + b.toNat) bs := rfl
theorem deF_eq : ∀ (bs : List (BitVec 8)) (a : Nat), deF a bs = a * 256 ^ bs.length + deN bs
 | [], a => by simp [deF, deN]
 | b :: bs, a => by
  unfold deN
  rw [deF_cons, deF_cons, deF_eq bs, deF_eq bs (0 * 256 + b.toNat), List.length_cons, Nat.pow_succ]
  have e : (a * 256 + b.toNat) * 256 ^ bs.length = a * (256 ^ bs.length * 256) + b.toNat * 256 ^ bs.length := by
   rw [Nat.add_mul, Nat.mul_assoc, Nat.mul_comm 256]
  rw [e]
  simp [deN, deF]
  omega
theorem deN_cons (b : BitVec 8) (bs : List (BitVec 8)) : deN (b :: bs) = b.toNat * 256 ^ bs.length + deN bs := by
 unfold deN
 rw [deF_cons, deF_eq]
 simp [deN]
theorem deN_lt : ∀ bs : List (BitVec 8), deN bs < 256 ^ bs.length
 | [] => by simp [deN, deF]
 | b :: bs => by
  rw [deN_cons, List.length_cons, Nat.pow_succ]
  have h1 := deN_lt bs
  have h2 := b.isLt
  have h3 : b.toNat * 256 ^ bs.length ≤ 255 * 256 ^ bs.length := Nat.mul_le_mul_right _ (by omega)
  omega
theorem deN_snoc (bs : List (BitVec 8)) (b : BitVec 8) : deN (bs ++ [b]) = deN bs * 256 + b.toNat := by
 unfold deN deF
 rw [List.foldl_append]
 rfl
theorem deN_beN : ∀ k n, deN (beN k n) = n % 256 ^ k
 | 0, n => by simp [beN, deN, deF, Nat.mod_one]
 | k + 1, n => by
  unfold beN
  rw [deN_cons, deN_beN k n, beN_length, BitVec.toNat_ofNat, Nat.shiftRight_eq_div_pow, pow8]
  have h := Nat.mod_mul (x := n) (a := 256 ^ k) (b := 256)
  have e : 256 ^ (k + 1) = 256 ^ k * 256 := Nat.pow_succ _ _
  rw [e, h, Nat.mul_comm (256 ^ k) (n / 256 ^ k % 256), Nat.add_comm]
theorem deN_beN_lt {k n : Nat} (h : n < 256 ^ k) : deN (beN k n) = n := by rw [deN_beN, Nat.mod_eq_of_lt h]
def zs (n : Nat) : List (BitVec 8) := List.replicate n 0
theorem zs_length (n : Nat) : (zs n).length = n := by simp [zs]
def xorB (a b : List (BitVec 8)) : List (BitVec 8) := List.zipWith (· ^^^ ·) a b
theorem xorB_length (a b : List (BitVec 8)) : (xorB a b).length = min a.length b.length := by simp [xorB]
end Go.Hg
namespace Go.Hg
open Go.RowKit
def H0 : List (BitVec 32) := [0x6a09e667, 0xbb67ae85, 0x3c6ef372, 0xa54ff53a, 0x510e527f, 0x9b05688c, 0x1f83d9ab, 0x5be0cd19]
def K0 : List (BitVec 32) := [
 0x428a2f98, 0x71374491, 0xb5c0fbcf, 0xe9b5dba5, 0x3956c25b, 0x59f111f1, 0x923f82a4, 0xab1c5ed5,
 0xd807aa98, 0x12835b01, 0x243185be, 0x550c7dc3, 0x72be5d74, 0x80deb1fe, 0x9bdc06a7, 0xc19bf174,
 0xe49b69c1, 0xefbe4786, 0x0fc19dc6, 0x240ca1cc, 0x2de92c6f, 0x4a7484aa, 0x5cb0a9dc, 0x76f988da,
 0x983e5152, 0xa831c66d, 0xb00327c8, 0xbf597fc7, 0xc6e00bf3, 0xd5a79147, 0x06ca6351, 0x14292967,
 0x27b70a85, 0x2e1b2138, 0x4d2c6dfc, 0x53380d13, 0x650a7354, 0x766a0abb, 0x81c2c92e, 0x92722c85,
 0xa2bfe8a1, 0xa81a664b, 0xc24b8b70, 0xc76c51a3, 0xd192e819, 0xd6990624, 0xf40e3585, 0x106aa070,
 0x19a4c116, 0x1e376c08, 0x2748774c, 0x34b0bcb5, 0x391c0cb3, 0x4ed8aa4a, 0x5b9cca4f, 0x682e6ff3,
 0x748f82ee, 0x78a5636f, 0x84c87814, 0x8cc70208, 0x90befffa, 0xa4506ceb, 0xbef9a3f7, 0xc67178f2]
theorem H0_length : H0.length = 8 := rfl
theorem K0_length : K0.length = 64 := rfl
def sha (M : List (BitVec 8)) : List (BitVec 8) := shaOf K0 H0 M
theorem sha_length (M : List (BitVec 8)) : (sha M).length = 32 := shaOf_length K0 H0_length M
def keyPad (key : List (BitVec 8)) : List (BitVec 8) := key ++ zs (64 - key.length)
def padX (key : List (BitVec 8)) (c : BitVec 8) : List (BitVec 8) := (keyPad key).map (· ^^^ c)
theorem keyPad_length {key : List (BitVec 8)} (h : key.length ≤ 64) : (keyPad key).length = 64 := by simp [keyPad, zs_length]; omega
theorem padX_length {key : List (BitVec 8)} (h : key.length ≤ 64) (c : BitVec 8) : (padX key c).length = 64 := by simp [padX, keyPad_length h]
def hmacOf (key M : List (BitVec 8)) : List (BitVec 8) := sha (padX key 0x5c ++ sha (padX key 0x36 ++ M))
theorem hmacOf_length (key M : List (BitVec 8)) : (hmacOf key M).length = 32 := sha_length _
def sized (parts : List (List (BitVec 8))) : List (BitVec 8) := parts.flatMap fun p => beN 4 p.length ++ p
def deriveOf (key : List (BitVec 8)) (parts : List (List (BitVec 8))) : List (BitVec 8) := hmacOf key (sized parts)
theorem deriveOf_length (key : List (BitVec 8)) (parts : List (List (BitVec 8))) : (deriveOf key parts).length = 32 := sha_length _
def le4 (b0 b1 b2 b3 : BitVec 8) : BitVec 32 := b0.setWidth 32 ||| b1.setWidth 32 <<< 8 ||| b2.setWidth 32 <<< 16 ||| b3.setWidth 32 <<< 24
def outL (x : BitVec 32) : List (BitVec 8) := [x.setWidth 8, (x >>> 8).setWidth 8, (x >>> 16).setWidth 8, (x >>> 24).setWidth 8]
def wordsL (bs : List (BitVec 8)) : List (BitVec 32) := (List.range (bs.length / 4)).map fun i => le4 (gb bs (4 * i)) (gb bs (4 * i + 1)) (gb bs (4 * i + 2)) (gb bs (4 * i + 3))
theorem wordsL_length (bs : List (BitVec 8)) : (wordsL bs).length = bs.length / 4 := by simp [wordsL]
def halfQ (s : List (BitVec 32)) (a b c d r1 r2 : Nat) : List (BitVec 32) :=
 let s1 := s.set a (gw s a + gw s b)
 let s2 := s1.set d (rl (gw s1 d ^^^ gw s1 a) r1)
 let s3 := s2.set c (gw s2 c + gw s2 d)
 s3.set b (rl (gw s3 b ^^^ gw s3 c) r2)
def quarterQ (s : List (BitVec 32)) (a b c d : Nat) : List (BitVec 32) := halfQ (halfQ s a b c d 16 12) a b c d 8 7
def quartersL : List (Nat × Nat × Nat × Nat) := [(0, 4, 8, 12), (1, 5, 9, 13), (2, 6, 10, 14), (3, 7, 11, 15), (0, 5, 10, 15), (1, 6, 11, 12), (2, 7, 8, 13), (3, 4, 9, 14)]
def doubleR (s : List (BitVec 32)) : List (BitVec 32) := quartersL.foldl (fun s q => quarterQ s q.1 q.2.1 q.2.2.1 q.2.2.2) s
def roundsR (s : List (BitVec 32)) : Nat → List (BitVec 32)
 | 0 => s
 | n + 1 => doubleR (roundsR s n)
theorem halfQ_length (s : List (BitVec 32)) (a b c d r1 r2 : Nat) : (halfQ s a b c d r1 r2).length = s.length := by simp [halfQ]
theorem quarterQ_length (s : List (BitVec 32)) (a b c d : Nat) : (quarterQ s a b c d).length = s.length := by simp [quarterQ, halfQ_length]
theorem foldQ_length : ∀ (l : List (Nat × Nat × Nat × Nat)) (s : List (BitVec 32)), (l.foldl (fun s q => quarterQ s q.1 q.2.1 q.2.2.1 q.2.2.2) s).length = s.length
 | [], s => rfl
 | q :: l, s => by rw [List.foldl_cons, foldQ_length l, quarterQ_length]
theorem doubleR_length (s : List (BitVec 32)) : (doubleR s).length = s.length := foldQ_length _ _
theorem roundsR_length (s : List (BitVec 32)) : ∀ n, (roundsR s n).length = s.length
 | 0 => rfl
 | n + 1 => by rw [roundsR, doubleR_length, roundsR_length s n]
def sigma : List (BitVec 32) := [0x61707865, 0x3320646e, 0x79622d32, 0x6b206574]
def firstS (key : List (BitVec 8)) (counter : BitVec 32) (nonce : List (BitVec 8)) : List (BitVec 32) := sigma ++ wordsL key ++ [counter] ++ wordsL nonce
theorem firstS_length {key nonce : List (BitVec 8)} (hk : key.length = 32) (hn : nonce.length = 12) (c : BitVec 32) : (firstS key c nonce).length = 16 := by simp [firstS, sigma, wordsL_length, hk, hn]
def blockOf (key : List (BitVec 8)) (counter : BitVec 32) (nonce : List (BitVec 8)) : List (BitVec 8) :=
 (List.zipWith (· + ·) (roundsR (firstS key counter nonce) 10) (firstS key counter nonce)).flatMap outL
theorem flat_outL_length : ∀ l : List (BitVec 32), (l.flatMap outL).length = 4 * l.length
 | [] => rfl
 | x :: l => by rw [List.flatMap_cons, List.length_append, flat_outL_length l, List.length_cons]; simp [outL]; omega
theorem blockOf_length {key nonce : List (BitVec 8)} (hk : key.length = 32) (hn : nonce.length = 12) (c : BitVec 32) : (blockOf key c nonce).length = 64 := by
 rw [blockOf, flat_outL_length, List.length_zipWith, roundsR_length, firstS_length hk hn]
 rfl
def blocksOf (key nonce : List (BitVec 8)) : Nat → List (BitVec 8)
 | 0 => []
 | n + 1 => blocksOf key nonce n ++ blockOf key (BitVec.ofNat 32 n) nonce
theorem blocksOf_length {key nonce : List (BitVec 8)} (hk : key.length = 32) (hn : nonce.length = 12) : ∀ n, (blocksOf key nonce n).length = 64 * n
 | 0 => rfl
 | n + 1 => by rw [blocksOf, List.length_append, blocksOf_length hk hn n, blockOf_length hk hn]; omega
def streamOf (key nonce : List (BitVec 8)) (n : Nat) : List (BitVec 8) := (blocksOf key nonce ((n + 63) / 64)).take n
theorem streamOf_length {key nonce : List (BitVec 8)} (hk : key.length = 32) (hn : nonce.length = 12) (n : Nat) : (streamOf key nonce n).length = n := by
 rw [streamOf, List.length_take, blocksOf_length hk hn]
 omega
end Go.Hg
