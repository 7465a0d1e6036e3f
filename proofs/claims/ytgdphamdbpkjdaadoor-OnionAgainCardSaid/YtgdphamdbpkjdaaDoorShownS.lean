/-
  Chapter 11: two hops, peeled twice. No program in sight.
-/
import Derived.Test.YtgdphamdbpkjdaaDoorOpen
import Derived.Great.FillDense
import Derived.Great.BuildSlice
namespace Go.Hg
open Go.RowKit
set_option linter.unusedVariables false
/-- A slice of rows that is written out. -/
theorem wp_listn {P : Program} {o : Oper} {a : Act} {w w0 : World} {L : List SP} {K : Act → World → Prop} {Q : Exit → Act → World → Prop} (t : TypeId) {e : TypeId} (ht : P.underlying t = some (.slice e)) {z : Value} {size by_ : Nat} (hi : (P.info? e).map (fun i => (i.zero, i.size, i.bytes)) = some (some z, size, by_)) (len : Nat) (parts : Array (Nat × Operand)) (ho : o.op = .buildSlice t len parts) (vs : List Value) (hlen : len = vs.length) (hpos : 0 < len * size) (hsmall : len * size ≤ 2 ^ 24)
    (hparts : (parts.map fun (i, x) => (i, a.eval x)).toList = (vs.zipIdx 0).map fun x => (x.2, x.1)) (h1 : ∀ v ∈ vs, v.cells.size = size) (H : At w0 L w)
    (h : ∀ b w', At w0 (raw b (vs.flatMap fun v => v.cells.toList).toArray e :: L) w' → K (a.put o.dst (.slice (some ⟨b, 0, none⟩) len len)) w') : OWp P o a w K Q := by
  obtain ⟨i, hi2, hz, hsz, hby⟩ := info_of hi
  have hs0 : 0 < size := Nat.pos_of_ne_zero fun e => by rw [e] at hpos; omega
  refine owp (wp_buildSlice t e len parts ho (vs.flatMap fun v => v.cells.toList).toArray i z ht hi2 hz (by rw [hsz]; omega) (by rw [hsz]; omega) ?_ (h _ _ (H.alloc _)))
  rw [hparts, hsz]
  exact Great.fill_whole hs0 _ _ h1 (by simp [hlen])
/-- Where a walk is to stop and go on: what lies behind is looked through once more there. -/
def Stop (p : Prop) : Prop := p
theorem Stop.go {p : Prop} (h : Stop p) : p := h
theorem Stop.un {p : Prop} (h : p) : Stop p := h
attribute [irreducible] Stop
/-- Which operation it is: an arm that is not its own fails at once. -/
theorem dst_is {P : Program} {o : Oper} {a : Act} {w : World} {K : Act → World → Prop} {Q : Exit → Act → World → Prop} (n : Nat) (_ : o.dst = some n) (h : OWp P o a w K Q) : OWp P o a w K Q := h
theorem sto_is {P : Program} {o : Oper} {a : Act} {w : World} {K : Act → World → Prop} {Q : Exit → Act → World → Prop} (n : Nat) {t : TypeId} {y : Operand} (_ : o.op = .store t (.tmp n) y) (h : OWp P o a w K Q) : OWp P o a w K Q := h
def keyA : List (BitVec 8) := 1 :: zs 31
def keyB : List (BitVec 8) := 2 :: zs 31
def hopA : HopD := ⟨1, 7, keyA, 0, 3 :: zs 15, 0, 9, 4⟩
def hopB : HopD := ⟨2, 8, keyB, 0, 4 :: zs 15, 5, 6, 0⟩
def bodyA : List (BitVec 8) := [1, 2, 3] ++ zs 253
theorem hopA_ok : hopA.ok := ⟨by decide, by decide, by decide, by decide, by decide, by decide, by decide, by decide⟩
theorem hopB_ok : hopB.ok := ⟨by decide, by decide, by decide, by decide, by decide, by decide, by decide, by decide⟩
theorem keyA_length : keyA.length = 32 := by decide
theorem keyB_length : keyB.length = 32 := by decide
theorem bodyA_length : bodyA.length = 256 := by rw [bodyA, List.length_append, zs_length]; rfl
def hopsAB : List HopO := [⟨hopA, hopA_ok⟩, ⟨hopB, hopB_ok⟩]
theorem hopsAB_map : hopsAB.map (·.1) = [hopA, hopB] := rfl
/-- A MAC that is not the packet's. -/
theorem peel_wrong {key : List (BitVec 8)} {p : PktD} {m : List (BitVec 8)} (h : macOf key p = p.mac) (hm : m ≠ p.mac) : peelOf key { p with mac := m } = (SlotD.zero, PktD.zero, 4) := by
  unfold peelOf
  have e : macOf key { p with mac := m } = macOf key p := rfl
  rw [e, h]
  exact if_pos fun e => hm e.symm
theorem peel_zero {key : List (BitVec 8)} {p : PktD} {s : SlotD} {q : PktD} (h : peelOf key p = (s, q, 0)) : macOf key p = p.mac := by
  unfold peelOf at h
  split at h
  · cases h
  · rename_i hn
    simpa using hn
/-- A slot that came out is one. -/
theorem peel_ok {key : List (BitVec 8)} {p q : PktD} {s : SlotD} {e : Nat} (po : p.ok) (h : peelOf key p = (s, q, e)) : s.ok ∧ q.ok := by
  unfold peelOf at h
  split at h
  · cases h
    exact ⟨SlotD.zero_ok, PktD.zero_ok⟩
  · split at h
    · cases h
      exact ⟨SlotD.zero_ok, PktD.zero_ok⟩
    · rename_i s' hd
      cases h
      have hol := openOf_length key po.head
      have so := (SlotD.dec_some (by rw [List.length_take, hol]; rfl) hd).2.1
      refine ⟨so, so.who, so.epoch, so.nonce, so.mac, by rw [List.length_drop, hol], ?_⟩
      rw [xorB_length, po.body, bodiesOf_length (keysOf_ok _ _ _)]
      rfl
structure Shown (p : PktD) (s : SlotD) (q : PktD) (t : SlotD) (r : PktD) : Prop where
  bld : buildOf [hopA, hopB] 77 bodyA = some p
  po : p.ok
  one : peelOf keyA p = (s, q, 0)
  so : s.ok
  qo : q.ok
  last : s.last = false
  next : s.next = 2
  delay : s.delay = 4
  hi : s.hi = 9
  two : peelOf keyB q = (t, r, 0)
  t_ok : t.ok
  ro : r.ok
  tlast : t.last = true
  box : t.box = 77
  lo : t.lo = 5
  body : r.body = bodyA
  bad : ∀ m, m ≠ p.mac → peelOf keyA { p with mac := m } = (SlotD.zero, PktD.zero, 4)
theorem shown_facts : ∃ p s q t r, Shown p s q t r := by
  have hs : (buildF 77 bodyA [hopA, hopB] []).isSome = true := (buildF_none 77 bodyA [hopA, hopB] [] (by simp)).2 fun h hm => by
    simp at hm
    rcases hm with rfl | rfl <;> decide
  obtain ⟨p, hp⟩ := Option.isSome_iff_exists.1 hs
  have hall : ∀ x ∈ [hopA, hopB], x.ok := fun x hx => by
    simp at hx
    rcases hx with rfl | rfl
    · exact hopA_ok
    · exact hopB_ok
  have L := layer_all (box := 77) (by omega) bodyA_length [hopB] hopA [] p hall (by simp) hp
  obtain ⟨q, hq, h1⟩ := L.peel
  have hfl : (fillStep [] hopA).length = 64 := fillStep_length (by simp)
  have M := layer_all (box := 77) (by omega) bodyA_length [] hopB (fillStep [] hopA) q (fun x hx => hall x (List.mem_cons_of_mem _ hx)) (by rw [hfl]; simp) hq
  obtain ⟨r, h2, hb, hro⟩ := M.peel
  have hbld : buildOf [hopA, hopB] 77 bodyA = some p := by rw [buildOf_F (by simp) (by simp)]; exact hp
  have h1 : peelOf keyA p = _ := h1
  have h2 : peelOf keyB q = _ := h2
  exact ⟨p, _, q, _, r, hbld, L.ok, h1, (peel_ok L.ok h1).1, M.ok, rfl, rfl, rfl, rfl, h2, (peel_ok M.ok h2).1, hro, rfl, rfl, rfl, hb, fun m hm => peel_wrong (peel_zero h1) hm⟩
theorem slot_at0 (s : SlotD) : s.cells.toArray[0]? = some (.bool s.last) := by rw [List.getElem?_toArray]; rfl
theorem slot_at1 (s : SlotD) : s.cells.toArray[1]? = some (.int .u16 (s.next : Int)) := by rw [List.getElem?_toArray]; rfl
theorem slot_at2 (s : SlotD) : s.cells.toArray[2]? = some (.int .u16 (s.box : Int)) := by rw [List.getElem?_toArray]; rfl
theorem slot_at37 {s : SlotD} (h : s.ok) : s.cells.toArray[37]? = some (.int .u64 (s.lo : Int)) := by rw [List.getElem?_toArray]; exact (SlotD.cells_post h.nonce h.mac 0).trans rfl
theorem slot_at38 {s : SlotD} (h : s.ok) : s.cells.toArray[38]? = some (.int .u64 (s.hi : Int)) := by rw [List.getElem?_toArray]; exact (SlotD.cells_post h.nonce h.mac 1).trans rfl
theorem slot_at39 {s : SlotD} (h : s.ok) : s.cells.toArray[39]? = some (.int .u32 (s.delay : Int)) := by rw [List.getElem?_toArray]; exact (SlotD.cells_post h.nonce h.mac 2).trans rfl
theorem pkt_at18 {p : PktD} (h : p.ok) {m : BitVec 8} {ms : List (BitVec 8)} (e : p.mac = m :: ms) : p.cells.toArray[18]? = some (.int .u8 (iv m)) := by
  have h2 := PktD.part_mac h
  rw [e] at h2
  have h3 : ((p.cells.drop 18).take 16)[0]? = some (.int .u8 (iv m)) := by rw [h2]; rfl
  rw [List.getElem?_take, if_pos (by omega), List.getElem?_drop] at h3
  rw [List.getElem?_toArray]
  exact h3
theorem pkt_mac0 {p : PktD} (h : p.ok) {m y : BitVec 8} {ms : List (BitVec 8)} (e : p.mac = m :: ms) : p.cells.toArray.setIfInBounds 18 (.int .u8 (iv y)) = ({ p with mac := y :: ms } : PktD).cells.toArray := by
  apply Array.ext'
  rw [Array.toList_setIfInBounds]
  show p.cells.set 18 _ = _
  unfold PktD.cells
  rw [e]
  rw [List.set_append_right _ _ (by simp)]
  rw [List.set_append_right _ _ (by simp [v8_length, h.nonce])]
  have e2 : (18 : Nat) - ([Value.int .u16 (p.who : Int), .int .u32 (p.epoch : Int)]).length - (v8 p.nonce).length = 0 := by simp [v8_length, h.nonce]
  rw [e2]
  rfl
end Go.Hg
