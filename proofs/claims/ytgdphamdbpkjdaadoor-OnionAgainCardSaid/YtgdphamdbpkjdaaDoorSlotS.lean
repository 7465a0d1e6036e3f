/-
  Chapter 10 told in lists: what a node is told. No program in sight.
-/
import Derived.Test.YtgdphamdbpkjdaaDoorFlat
import Derived.Test.YtgdphamdbpkjdaaDoorOctS
namespace Go.Hg
open Go.RowKit
set_option linter.unusedVariables false
/-- What a node is told. -/
structure SlotD where
  last : Bool
  next : Nat
  box : Nat
  who : Nat
  epoch : Nat
  nonce : List (BitVec 8)
  mac : List (BitVec 8)
  lo : Nat
  hi : Nat
  delay : Nat
deriving DecidableEq
namespace SlotD
/-- Its numbers are numbers of their kinds. -/
structure ok (s : SlotD) : Prop where
  next : s.next < 65536
  box : s.box < 65536
  who : s.who < 65536
  epoch : s.epoch < 4294967296
  nonce : s.nonce.length = 16
  mac : s.mac.length = 16
  lo : s.lo < 18446744073709551616
  hi : s.hi < 18446744073709551616
  delay : s.delay < 4294967296
def zero : SlotD := ⟨false, 0, 0, 0, 0, zs 16, zs 16, 0, 0, 0⟩
theorem zero_ok : zero.ok := by constructor <;> first | (exact zs_length 16) | (simp [zero])
/-- The fields that one of its kind has. -/
def only (s : SlotD) : SlotD := if s.last then ⟨true, 0, s.box, 0, 0, zs 16, zs 16, s.lo, s.hi, s.delay⟩ else { s with box := 0 }
theorem only_ok {s : SlotD} (h : s.ok) : s.only.ok := by
  unfold only
  split
  · exact ⟨by simp, h.box, by simp, by simp, zs_length 16, zs_length 16, h.lo, h.hi, h.delay⟩
  · exact ⟨h.next, by simp, h.who, h.epoch, h.nonce, h.mac, h.lo, h.hi, h.delay⟩
def right (s : SlotD) : Bool := decide (s.lo ≤ s.hi ∧ s = s.only)
def kind (s : SlotD) : Nat := if s.last then 1 else 0
def to (s : SlotD) : Nat := if s.last then s.box else s.next
def bytes (s : SlotD) : List (BitVec 8) := beN 1 s.kind ++ beN 2 s.to ++ beN 8 s.lo ++ beN 8 s.hi ++ beN 4 s.delay ++ beN 2 s.who ++ beN 4 s.epoch ++ s.nonce ++ s.mac ++ zs 3
theorem bytes_length {s : SlotD} (hn : s.nonce.length = 16) (hm : s.mac.length = 16) : s.bytes.length = 64 := by simp [bytes, beN_length, hn, hm, zs_length]
def pre (s : SlotD) : List Value := [.bool s.last, .int .u16 (s.next : Int), .int .u16 (s.box : Int), .int .u16 (s.who : Int), .int .u32 (s.epoch : Int)]
def post (s : SlotD) : List Value := [.int .u64 (s.lo : Int), .int .u64 (s.hi : Int), .int .u32 (s.delay : Int)]
theorem pre_length (s : SlotD) : s.pre.length = 5 := rfl
theorem post_length (s : SlotD) : s.post.length = 3 := rfl
/-- Its cells. -/
def cells (s : SlotD) : List Value := s.pre ++ v8 s.nonce ++ v8 s.mac ++ s.post
theorem cells_length {s : SlotD} (hn : s.nonce.length = 16) (hm : s.mac.length = 16) : s.cells.length = 40 := by simp [cells, v8_length, hn, hm, pre_length, post_length]
theorem cells_one {s : SlotD} : ∀ u ∈ s.cells, u.oneCell' = true := fun u hu => by
  unfold cells at hu
  simp only [List.mem_append] at hu
  rcases hu with ((hu | hu) | hu) | hu
  · simp [pre] at hu; rcases hu with rfl | rfl | rfl | rfl | rfl <;> rfl
  · exact v8_one _ u hu
  · exact v8_one _ u hu
  · simp [post] at hu; rcases hu with rfl | rfl | rfl <;> rfl
theorem cells_post {s : SlotD} (hn : s.nonce.length = 16) (hm : s.mac.length = 16) (j : Nat) : s.cells[37 + j]? = s.post[j]? := by
  unfold cells
  rw [List.getElem?_append_right (by simp [v8_length, hn, hm, pre_length])]
  congr 1
  simp [v8_length, hn, hm, pre_length]
theorem cells_nonce {s : SlotD} (hn : s.nonce.length = 16) : (s.cells.drop 5).take 16 = v8 s.nonce := by
  have e : (v8 s.nonce).length = 16 := by rw [v8_length, hn]
  show ((v8 s.nonce ++ v8 s.mac) ++ _).take 16 = _
  rw [List.append_assoc, ← e, List.take_left]
theorem cells_mac {s : SlotD} (hn : s.nonce.length = 16) (hm : s.mac.length = 16) : (s.cells.drop 21).take 16 = v8 s.mac := by
  have e : (v8 s.nonce).length = 16 := by rw [v8_length, hn]
  have e2 : (v8 s.mac).length = 16 := by rw [v8_length, hm]
  have h : s.cells.drop 21 = (v8 s.mac) ++ s.post := by
    have : s.cells.drop 21 = (s.cells.drop 5).drop 16 := by rw [List.drop_drop]
    rw [this]
    show ((v8 s.nonce ++ v8 s.mac) ++ _).drop 16 = _
    rw [List.append_assoc, ← e, List.drop_left]
  rw [h, ← e2, List.take_left]
theorem set_last (s : SlotD) (b : Bool) : s.cells.toArray.setIfInBounds 0 (.bool b) = ({ s with last := b } : SlotD).cells.toArray := by apply Array.ext'; rw [Array.toList_setIfInBounds]; rfl
theorem set_next (s : SlotD) (n : Nat) : s.cells.toArray.setIfInBounds 1 (.int .u16 (n : Int)) = ({ s with next := n } : SlotD).cells.toArray := by apply Array.ext'; rw [Array.toList_setIfInBounds]; rfl
theorem set_box (s : SlotD) (n : Nat) : s.cells.toArray.setIfInBounds 2 (.int .u16 (n : Int)) = ({ s with box := n } : SlotD).cells.toArray := by apply Array.ext'; rw [Array.toList_setIfInBounds]; rfl
theorem set_who (s : SlotD) (n : Nat) : s.cells.toArray.setIfInBounds 3 (.int .u16 (n : Int)) = ({ s with who := n } : SlotD).cells.toArray := by apply Array.ext'; rw [Array.toList_setIfInBounds]; rfl
theorem set_epoch (s : SlotD) (n : Nat) : s.cells.toArray.setIfInBounds 4 (.int .u32 (n : Int)) = ({ s with epoch := n } : SlotD).cells.toArray := by apply Array.ext'; rw [Array.toList_setIfInBounds]; rfl
theorem set_post (s : SlotD) (hn : s.nonce.length = 16) (hm : s.mac.length = 16) (j : Nat) (v : Value) : s.cells.toArray.setIfInBounds (37 + j) v = (s.pre ++ v8 s.nonce ++ v8 s.mac ++ s.post.set j v).toArray := by
  apply Array.ext'
  rw [Array.toList_setIfInBounds]
  show s.cells.set _ _ = _
  unfold cells
  rw [List.set_append_right _ _ (by simp [v8_length, hn, hm, pre_length])]
  congr 2
  simp [v8_length, hn, hm, pre_length]
theorem set_lo (s : SlotD) (hn : s.nonce.length = 16) (hm : s.mac.length = 16) (n : Nat) : s.cells.toArray.setIfInBounds 37 (.int .u64 (n : Int)) = ({ s with lo := n } : SlotD).cells.toArray := set_post s hn hm 0 _
theorem set_hi (s : SlotD) (hn : s.nonce.length = 16) (hm : s.mac.length = 16) (n : Nat) : s.cells.toArray.setIfInBounds 38 (.int .u64 (n : Int)) = ({ s with hi := n } : SlotD).cells.toArray := set_post s hn hm 1 _
theorem set_delay (s : SlotD) (hn : s.nonce.length = 16) (hm : s.mac.length = 16) (n : Nat) : s.cells.toArray.setIfInBounds 39 (.int .u32 (n : Int)) = ({ s with delay := n } : SlotD).cells.toArray := set_post s hn hm 2 _
theorem put_nonce (s : SlotD) (hn : s.nonce.length = 16) (X : List (BitVec 8)) (hX : X.length = 16) : s.cells.take 5 ++ v8 X ++ s.cells.drop (5 + (v8 X).length) = ({ s with nonce := X } : SlotD).cells := by
  have e : (v8 s.nonce).length = 16 := by rw [v8_length, hn]
  have h : s.cells.drop (5 + (v8 X).length) = v8 s.mac ++ s.post := by
    rw [v8_length, hX, ← List.drop_drop]
    show ((v8 s.nonce ++ v8 s.mac) ++ _).drop 16 = _
    rw [List.append_assoc, ← e, List.drop_left]
  rw [h]
  have e3 : s.cells.take 5 = s.pre := rfl
  rw [e3]
  show s.pre ++ v8 X ++ (v8 s.mac ++ s.post) = s.pre ++ v8 X ++ v8 s.mac ++ s.post
  simp only [List.append_assoc]
theorem put_mac (s : SlotD) (hn : s.nonce.length = 16) (hm : s.mac.length = 16) (X : List (BitVec 8)) (hX : X.length = 16) : s.cells.take 21 ++ v8 X ++ s.cells.drop (21 + (v8 X).length) = ({ s with mac := X } : SlotD).cells := by
  have e : (s.pre ++ v8 s.nonce).length = 21 := by simp [v8_length, hn, pre_length]
  have e2 : (s.pre ++ v8 s.nonce ++ v8 s.mac).length = 37 := by simp [v8_length, hn, hm, pre_length]
  have h1 : s.cells.take 21 = s.pre ++ v8 s.nonce := by
    unfold cells
    rw [List.append_assoc _ (v8 s.mac), ← e, List.take_left]
  have h2 : s.cells.drop (21 + (v8 X).length) = s.post := by
    rw [v8_length, hX]
    unfold cells
    rw [show 21 + 16 = 37 from rfl, ← e2, List.drop_left]
  rw [h1, h2]
  rfl
def kinds : List LK := [.b, .i .u16, .i .u16, .i .u16, .i .u32] ++ List.replicate 16 (.i .u8) ++ List.replicate 16 (.i .u8) ++ [.i .u64, .i .u64, .i .u32]
end SlotD
theorem wf_u16 {n : Nat} (h : n < 65536) : (Lit.int .u16 (n : Int)).wf = true := by
  have e1 : IntKind.u16.min = 0 := rfl
  have e2 : IntKind.u16.max = 65535 := rfl
  simp [Lit.wf, e1, e2]
  omega
theorem wf_u32 {n : Nat} (h : n < 4294967296) : (Lit.int .u32 (n : Int)).wf = true := by
  have e1 : IntKind.u32.min = 0 := rfl
  have e2 : IntKind.u32.max = 4294967295 := rfl
  simp [Lit.wf, e1, e2]
  omega
theorem wf_u64 {n : Nat} (h : n < 18446744073709551616) : (Lit.int .u64 (n : Int)).wf = true := by
  have e1 : IntKind.u64.min = 0 := rfl
  have e2 : IntKind.u64.max = 18446744073709551615 := rfl
  simp [Lit.wf, e1, e2]
  omega
theorem fits_v8n {bs : List (BitVec 8)} {n : Nat} (h : bs.length = n) : fits (List.replicate n (.i .u8)) (v8 bs) := by
  subst h
  exact fits_v8 bs
namespace SlotD
theorem fits_cells {s : SlotD} (h : s.ok) : fits kinds s.cells :=
  fits_append (fits_append (fits_append ⟨trivial, ⟨rfl, wf_u16 h.next⟩, ⟨rfl, wf_u16 h.box⟩, ⟨rfl, wf_u16 h.who⟩, ⟨rfl, wf_u32 h.epoch⟩, trivial⟩ (fits_v8n h.nonce)) (fits_v8n h.mac)) ⟨⟨rfl, wf_u64 h.lo⟩, ⟨rfl, wf_u64 h.hi⟩, ⟨rfl, wf_u32 h.delay⟩, trivial⟩
theorem v8_inj {a b : List (BitVec 8)} (h : v8 a = v8 b) : a = b := by
  unfold v8 at h
  refine List.map_inj_right (f := fun b : BitVec 8 => Value.int .u8 (iv b)) (fun x y e => ?_) |>.1 h
  simp only [Value.int.injEq, true_and] at e
  exact iv_inj.1 e
theorem cells_inj {s t : SlotD} (hs : s.ok) (ht : t.ok) (h : s.cells = t.cells) : s = t := by
  have hn : v8 s.nonce = v8 t.nonce := by rw [← cells_nonce hs.nonce, ← cells_nonce ht.nonce, h]
  have hm : v8 s.mac = v8 t.mac := by rw [← cells_mac hs.nonce hs.mac, ← cells_mac ht.nonce ht.mac, h]
  have h0 : s.cells[0]? = t.cells[0]? := by rw [h]
  have h1 : s.cells[1]? = t.cells[1]? := by rw [h]
  have h2 : s.cells[2]? = t.cells[2]? := by rw [h]
  have h3 : s.cells[3]? = t.cells[3]? := by rw [h]
  have h4 : s.cells[4]? = t.cells[4]? := by rw [h]
  have h5 : s.cells[37 + 0]? = t.cells[37 + 0]? := by rw [h]
  have h6 : s.cells[37 + 1]? = t.cells[37 + 1]? := by rw [h]
  have h7 : s.cells[37 + 2]? = t.cells[37 + 2]? := by rw [h]
  rw [cells_post hs.nonce hs.mac, cells_post ht.nonce ht.mac] at h5 h6 h7
  have e0 : s.last = t.last := by simp [cells, pre] at h0; first | exact h0 | omega
  have e1 : s.next = t.next := by simp [cells, pre] at h1; first | exact h1 | omega
  have e2 : s.box = t.box := by simp [cells, pre] at h2; first | exact h2 | omega
  have e3 : s.who = t.who := by simp [cells, pre] at h3; first | exact h3 | omega
  have e4 : s.epoch = t.epoch := by simp [cells, pre] at h4; first | exact h4 | omega
  have e5 : s.lo = t.lo := by simp [post] at h5; omega
  have e6 : s.hi = t.hi := by simp [post] at h6; omega
  have e7 : s.delay = t.delay := by simp [post] at h7; omega
  have e8 := v8_inj hn
  have e9 := v8_inj hm
  clear h hn hm h0 h1 h2 h3 h4 h5 h6 h7 hs ht
  cases s; cases t
  simp_all
/-- The slot of bytes, whatever they say. -/
def readD (b : List (BitVec 8)) : SlotD :=
  let l := decide (deN (b.take 1) = 1)
  let to := deN ((b.drop 1).take 2)
  ⟨l, if l then 0 else to, if l then to else 0, deN ((b.drop 23).take 2), deN ((b.drop 25).take 4), (b.drop 29).take 16, (b.drop 45).take 16, deN ((b.drop 3).take 8), deN ((b.drop 11).take 8), deN ((b.drop 19).take 4)⟩
theorem de_lt {b : List (BitVec 8)} {p n : Nat} (hb : b.length = 64) (h : p + n ≤ 64) : deN ((b.drop p).take n) < 256 ^ n := by
  have h1 := deN_lt ((b.drop p).take n)
  have h2 : ((b.drop p).take n).length = n := by rw [List.length_take, List.length_drop]; omega
  rwa [h2] at h1
theorem readD_ok {b : List (BitVec 8)} (hb : b.length = 64) : (readD b).ok := by
  have h1 := de_lt (p := 1) (n := 2) hb (by omega)
  have h2 := de_lt (p := 23) (n := 2) hb (by omega)
  have h3 := de_lt (p := 25) (n := 4) hb (by omega)
  have h4 := de_lt (p := 3) (n := 8) hb (by omega)
  have h5 := de_lt (p := 11) (n := 8) hb (by omega)
  have h6 := de_lt (p := 19) (n := 4) hb (by omega)
  constructor
  all_goals simp only [readD]
  · split <;> omega
  · split <;> omega
  · exact h2
  · exact h3
  · rw [List.length_take, List.length_drop]; omega
  · rw [List.length_take, List.length_drop]; omega
  · exact h4
  · exact h5
  · exact h6
/-- The slot of bytes. -/
def dec (b : List (BitVec 8)) : Option SlotD := if (readD b).right ∧ (readD b).bytes = b then some (readD b) else none
theorem readD_bytes {s : SlotD} (h : s.ok) (hr : s.right = true) : readD s.bytes = s := by
  have hr2 := of_decide_eq_true hr
  have l1 := beN_length 1 s.kind
  have l2 := beN_length 2 s.to
  have l3 := beN_length 8 s.lo
  have l4 := beN_length 8 s.hi
  have l5 := beN_length 4 s.delay
  have l6 := beN_length 2 s.who
  have l7 := beN_length 4 s.epoch
  have l8 := h.nonce
  have l9 := h.mac
  have hk : s.kind < 256 ^ 1 := by unfold kind; split <;> omega
  have ht : s.to < 256 ^ 2 := by have := h.box; have := h.next; unfold to; split <;> omega
  have d1 := deN_beN_lt (k := 1) hk
  have d2 := deN_beN_lt (k := 2) ht
  have d3 := deN_beN_lt (k := 8) (n := s.lo) h.lo
  have d4 := deN_beN_lt (k := 8) (n := s.hi) h.hi
  have d5 := deN_beN_lt (k := 4) (n := s.delay) h.delay
  have d6 := deN_beN_lt (k := 2) (n := s.who) h.who
  have d7 := deN_beN_lt (k := 4) (n := s.epoch) h.epoch
  have hb : s.bytes = beN 1 s.kind ++ (beN 2 s.to ++ (beN 8 s.lo ++ (beN 8 s.hi ++ (beN 4 s.delay ++ (beN 2 s.who ++ (beN 4 s.epoch ++ (s.nonce ++ (s.mac ++ zs 3)))))))) := by simp [bytes]
  rw [hb]
  generalize beN 1 s.kind = a1 at *
  generalize beN 2 s.to = a2 at *
  generalize beN 8 s.lo = a3 at *
  generalize beN 8 s.hi = a4 at *
  generalize beN 4 s.delay = a5 at *
  generalize beN 2 s.who = a6 at *
  generalize beN 4 s.epoch = a7 at *
  have seg : ∀ {p n : Nat} {A B C : List (BitVec 8)}, A.length = p → B.length = n → ((A ++ (B ++ C)).drop p).take n = B := fun {p n A B C} ha hb => by
    subst ha hb
    rw [List.drop_left, List.take_left]
  have s1 : ((a1 ++ (a2 ++ (a3 ++ (a4 ++ (a5 ++ (a6 ++ (a7 ++ (s.nonce ++ (s.mac ++ zs 3))))))))).take 1) = a1 := by rw [← l1, List.take_left]
  have s2 : ((a1 ++ (a2 ++ (a3 ++ (a4 ++ (a5 ++ (a6 ++ (a7 ++ (s.nonce ++ (s.mac ++ zs 3))))))))).drop 1).take 2 = a2 := seg l1 l2
  have s3 : ((a1 ++ (a2 ++ (a3 ++ (a4 ++ (a5 ++ (a6 ++ (a7 ++ (s.nonce ++ (s.mac ++ zs 3))))))))).drop 3).take 8 = a3 := by
    rw [← List.append_assoc a1]; exact seg (by simp [l1, l2]) l3
  have s4 : ((a1 ++ (a2 ++ (a3 ++ (a4 ++ (a5 ++ (a6 ++ (a7 ++ (s.nonce ++ (s.mac ++ zs 3))))))))).drop 11).take 8 = a4 := by
    rw [← List.append_assoc a2, ← List.append_assoc a1]; exact seg (by simp [l1, l2, l3]) l4
  have s5 : ((a1 ++ (a2 ++ (a3 ++ (a4 ++ (a5 ++ (a6 ++ (a7 ++ (s.nonce ++ (s.mac ++ zs 3))))))))).drop 19).take 4 = a5 := by
    rw [← List.append_assoc a3, ← List.append_assoc a2, ← List.append_assoc a1]; exact seg (by simp [l1, l2, l3, l4]) l5
  have s6 : ((a1 ++ (a2 ++ (a3 ++ (a4 ++ (a5 ++ (a6 ++ (a7 ++ (s.nonce ++ (s.mac ++ zs 3))))))))).drop 23).take 2 = a6 := by
    rw [← List.append_assoc a4, ← List.append_assoc a3, ← List.append_assoc a2, ← List.append_assoc a1]; exact seg (by simp [l1, l2, l3, l4, l5]) l6
  have s7 : ((a1 ++ (a2 ++ (a3 ++ (a4 ++ (a5 ++ (a6 ++ (a7 ++ (s.nonce ++ (s.mac ++ zs 3))))))))).drop 25).take 4 = a7 := by
    rw [← List.append_assoc a5, ← List.append_assoc a4, ← List.append_assoc a3, ← List.append_assoc a2, ← List.append_assoc a1]; exact seg (by simp [l1, l2, l3, l4, l5, l6]) l7
  have s8 : ((a1 ++ (a2 ++ (a3 ++ (a4 ++ (a5 ++ (a6 ++ (a7 ++ (s.nonce ++ (s.mac ++ zs 3))))))))).drop 29).take 16 = s.nonce := by
    rw [← List.append_assoc a6, ← List.append_assoc a5, ← List.append_assoc a4, ← List.append_assoc a3, ← List.append_assoc a2, ← List.append_assoc a1]; exact seg (by simp [l1, l2, l3, l4, l5, l6, l7]) l8
  have s9 : ((a1 ++ (a2 ++ (a3 ++ (a4 ++ (a5 ++ (a6 ++ (a7 ++ (s.nonce ++ (s.mac ++ zs 3))))))))).drop 45).take 16 = s.mac := by
    rw [← List.append_assoc a7, ← List.append_assoc a6, ← List.append_assoc a5, ← List.append_assoc a4, ← List.append_assoc a3, ← List.append_assoc a2, ← List.append_assoc a1]; exact seg (by simp [l1, l2, l3, l4, l5, l6, l7, l8]) l9
  unfold readD
  rw [s1, s2, s3, s4, s5, s6, s7, s8, s9, d1, d2, d3, d4, d5, d6, d7]
  have ho := hr2.2
  unfold only at ho
  unfold kind to
  cases s with
  | mk last next box who epoch nonce mac lo hi delay =>
    cases last with
    | true =>
      simp at ho
      obtain ⟨rfl, rfl, rfl, rfl, rfl⟩ := ho
      simp
    | false =>
      simp at ho
      subst ho
      simp
theorem dec_bytes {s : SlotD} (h : s.ok) (hr : s.right = true) : dec s.bytes = some s := by
  unfold dec
  rw [readD_bytes h hr, if_pos ⟨hr, rfl⟩]
theorem dec_some {b : List (BitVec 8)} {s : SlotD} (hb : b.length = 64) (h : dec b = some s) : s = readD b ∧ s.ok ∧ s.right = true ∧ s.bytes = b := by
  unfold dec at h
  split at h
  · rename_i hc
    cases h
    exact ⟨rfl, readD_ok hb, hc.1, hc.2⟩
  · cases h
end SlotD
end Go.Hg
