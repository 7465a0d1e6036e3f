/-
  Chapter 11 told in lists: packets, keys, hops, what is made of them. No program in sight.
-/
import Derived.Test.YtgdphamdbpkjdaaDoorSlotS
import Derived.Test.YtgdphamdbpkjdaaDoorHmacS
namespace Go.Hg
open Go.RowKit
set_option linter.unusedVariables false
/-! ### Parts of a list of cells -/
theorem splice3 {A B C X : List Value} {off : Nat} (hA : A.length = off) (hX : X.length = B.length) : (A ++ (B ++ C)).take off ++ X ++ (A ++ (B ++ C)).drop (off + X.length) = A ++ (X ++ C) := by
  subst hA
  rw [hX, List.take_left, ← List.drop_drop, List.drop_left, List.drop_left, List.append_assoc]
theorem part3 {A B C : List Value} {off n : Nat} (hA : A.length = off) (hB : B.length = n) : ((A ++ (B ++ C)).drop off).take n = B := by
  subst hA hB
  rw [List.drop_left, List.take_left]
theorem part2 {A B : List Value} {off n : Nat} (hA : A.length = off) (hB : B.length = n) : ((A ++ B).drop off).take n = B := by
  subst hA hB
  rw [List.drop_left, List.take_length]
theorem splice2 {A B X : List Value} {off : Nat} (hA : A.length = off) (hX : X.length = B.length) : (A ++ B).take off ++ X ++ (A ++ B).drop (off + X.length) = A ++ X := by
  subst hA
  rw [hX, List.take_left, ← List.drop_drop, List.drop_left, List.drop_length, List.append_nil]
/-! ### A struct that is put together -/
/-- The zero cells of a struct, and where its fields lie. -/
def placesOf (P : Program) (t : TypeId) : Option (List Value × List (Nat × Nat)) :=
  match P.info? t, P.underlying t with
  | some it, some (.struct fields) =>
    match it.zero, fields.toList.mapM (fun f => (P.info? f.type).map fun i => (f.offset, i.size)) with
    | some z, some places => some (z.cells.toList, places)
    | _, _ => none
  | _, _ => none
/-- Its cells behind so many parts. -/
def buildL (places : List (Nat × Nat)) : List Value → List (Nat × List Value) → Option (List Value)
  | cs, [] => some cs
  | cs, (i, v) :: rest => match places[i]? with
    | none => none
    | some (off, size) => if v.length = size ∧ off + v.length ≤ cs.length then buildL places (cs.take off ++ v ++ cs.drop (off + v.length)) rest else none
theorem fill_buildL {places : List (Nat × Nat)} : ∀ (parts : List (Nat × Value)) (cs : List Value) (out : List Value), buildL places cs (parts.map fun x => (x.1, x.2.cells.toList)) = some out → Instr.fill (places.toArray[·]?) cs.toArray parts = some out.toArray
  | [], cs, out, h => by cases h; rfl
  | (i, v) :: rest, cs, out, h => by
    simp only [List.map_cons, buildL] at h
    unfold Instr.fill
    have e : places.toArray[i]? = places[i]? := by simp
    rw [e]
    split at h
    · cases h
    · rename_i off size hp
      rw [hp]
      split at h
      · rename_i hc
        obtain ⟨h1, h2⟩ := hc
        have e9 : v.cells.toList.length = v.cells.size := Array.length_toList
        have e8 : cs.toArray.size = cs.length := List.size_toArray
        have hn : ¬ (v.cells.size ≠ size ∨ off + v.cells.size > cs.toArray.size) := by
          omega
        have hg : (decide (v.cells.size ≠ size) || decide (off + v.cells.size > cs.toArray.size)) = false := by
          simp only [Bool.or_eq_false_iff, decide_eq_false_iff_not]
          exact ⟨fun h => hn (.inl h), fun h => hn (.inr h)⟩
        have hs : v.cells.zipIdx.foldl (fun cs (x : Value × Nat) => cs.setIfInBounds (off + x.2) x.1) cs.toArray = (cs.take off ++ v.cells.toList ++ cs.drop (off + v.cells.toList.length)).toArray := by
          have hf := foldl_fill off v.cells.toList 0 cs.toArray (by omega)
          apply Array.ext'
          rw [← Array.foldl_toList, Array.toList_zipIdx]
          simpa using hf
        simp only [hg, Bool.false_eq_true, if_false, ne_eq, hn]
        rw [hs]
        exact fill_buildL rest _ out h
      · cases h
theorem run_buildL {P : Program} {t : TypeId} {z : List Value} {places : List (Nat × Nat)} (hp : placesOf P t = some (z, places)) (parts : List (Nat × Value)) {out : List Value} (h : buildL places z (parts.map fun x => (x.1, x.2.cells.toList)) = some out) (w : World) :
    (Instr.build t parts.toArray).run P w = .ok (.agg out.toArray) w := by
  refine run_build w t parts.toArray out.toArray ?_
  unfold placesOf at hp
  unfold Program.built
  cases hi : P.info? t with
  | none => simp [hi] at hp
  | some it =>
    cases hu : P.underlying t with
    | none => simp [hi, hu] at hp
    | some d =>
      cases d <;> try (simp [hi, hu] at hp; done)
      case struct fields =>
        simp only [hi, hu] at hp ⊢
        cases hz : it.zero with
        | none => simp [hz] at hp
        | some zv =>
          cases hm : fields.toList.mapM (fun f => (P.info? f.type).map fun i => (f.offset, i.size)) with
          | none => simp [hz, hm] at hp
          | some ps =>
            simp [hz, hm] at hp
            obtain ⟨rfl, rfl⟩ := hp
            have := fill_buildL parts _ out h
            simpa [hz, hm] using this
/-! ### Packets -/
structure PktD where
  who : Nat
  epoch : Nat
  nonce : List (BitVec 8)
  mac : List (BitVec 8)
  head : List (BitVec 8)
  body : List (BitVec 8)
deriving DecidableEq
namespace PktD
structure ok (p : PktD) : Prop where
  who : p.who < 65536
  epoch : p.epoch < 4294967296
  nonce : p.nonce.length = 16
  mac : p.mac.length = 16
  head : p.head.length = 320
  body : p.body.length = 256
def zero : PktD := ⟨0, 0, zs 16, zs 16, zs 320, zs 256⟩
theorem zero_ok : zero.ok := ⟨by simp [zero], by simp [zero], zs_length _, zs_length _, zs_length _, zs_length _⟩
def cells (p : PktD) : List Value := [.int .u16 (p.who : Int), .int .u32 (p.epoch : Int)] ++ (v8 p.nonce ++ (v8 p.mac ++ (v8 p.head ++ v8 p.body)))
theorem cells_length {p : PktD} (h : p.ok) : p.cells.length = 610 := by simp [cells, v8_length, h.nonce, h.mac, h.head, h.body]
theorem cells_one {p : PktD} : ∀ u ∈ p.cells, u.oneCell' = true := fun u hu => by
  unfold cells at hu
  simp only [List.mem_append] at hu
  rcases hu with hu | hu | hu | hu | hu
  · simp at hu; rcases hu with rfl | rfl <;> rfl
  all_goals exact v8_one _ u hu
variable {p : PktD}
theorem part_nonce (h : p.ok) : (p.cells.drop 2).take 16 = v8 p.nonce := part3 rfl (by rw [v8_length, h.nonce])
theorem part_mac (h : p.ok) : (p.cells.drop 18).take 16 = v8 p.mac := by
  unfold cells
  rw [← List.append_assoc]
  exact part3 (by simp [v8_length, h.nonce]) (by rw [v8_length, h.mac])
theorem part_head (h : p.ok) : (p.cells.drop 34).take 320 = v8 p.head := by
  unfold cells
  rw [← List.append_assoc, ← List.append_assoc]
  exact part3 (by simp [v8_length, h.nonce, h.mac]) (by rw [v8_length, h.head])
theorem part_body (h : p.ok) : (p.cells.drop 354).take 256 = v8 p.body := by
  unfold cells
  rw [← List.append_assoc, ← List.append_assoc, ← List.append_assoc]
  exact part2 (by simp [v8_length, h.nonce, h.mac, h.head]) (by rw [v8_length, h.body])
theorem put_who (p : PktD) (n : Nat) : p.cells.take 0 ++ [.int .u16 (n : Int)] ++ p.cells.drop (0 + 1) = ({ p with who := n } : PktD).cells := rfl
theorem put_epoch (p : PktD) (n : Nat) : p.cells.take 1 ++ [.int .u32 (n : Int)] ++ p.cells.drop (1 + 1) = ({ p with epoch := n } : PktD).cells := rfl
theorem put_nonce (h : p.nonce.length = 16) {X : List (BitVec 8)} (hX : X.length = 16) : p.cells.take 2 ++ v8 X ++ p.cells.drop (2 + (v8 X).length) = ({ p with nonce := X } : PktD).cells :=
  splice3 rfl (by rw [v8_length, v8_length, hX, h])
theorem put_mac (h : p.nonce.length = 16) (h2 : p.mac.length = 16) {X : List (BitVec 8)} (hX : X.length = 16) : p.cells.take 18 ++ v8 X ++ p.cells.drop (18 + (v8 X).length) = ({ p with mac := X } : PktD).cells := by
  unfold cells
  rw [← List.append_assoc, splice3 (by simp [v8_length, h]) (by rw [v8_length, v8_length, hX, h2]), List.append_assoc]
theorem put_head (h : p.nonce.length = 16) (h2 : p.mac.length = 16) (h3 : p.head.length = 320) {X : List (BitVec 8)} (hX : X.length = 320) : p.cells.take 34 ++ v8 X ++ p.cells.drop (34 + (v8 X).length) = ({ p with head := X } : PktD).cells := by
  unfold cells
  rw [← List.append_assoc, ← List.append_assoc, splice3 (by simp [v8_length, h, h2]) (by rw [v8_length, v8_length, hX, h3]), List.append_assoc, List.append_assoc]
theorem put_body (h : p.nonce.length = 16) (h2 : p.mac.length = 16) (h3 : p.head.length = 320) (h4 : p.body.length = 256) {X : List (BitVec 8)} (hX : X.length = 256) : p.cells.take 354 ++ v8 X ++ p.cells.drop (354 + (v8 X).length) = ({ p with body := X } : PktD).cells := by
  unfold cells
  rw [← List.append_assoc, ← List.append_assoc, ← List.append_assoc, splice2 (by simp [v8_length, h, h2, h3]) (by rw [v8_length, v8_length, hX, h4]), List.append_assoc, List.append_assoc, List.append_assoc]
def places : List (Nat × Nat) := [(0, 1), (1, 1), (2, 16), (18, 16), (34, 320), (354, 256)]
def kinds : List LK := [.i .u16, .i .u32] ++ (List.replicate 16 (.i .u8) ++ (List.replicate 16 (.i .u8) ++ (List.replicate 320 (.i .u8) ++ List.replicate 256 (.i .u8))))
theorem fits_cells (h : p.ok) : fits kinds p.cells :=
  fits_append ⟨⟨rfl, wf_u16 h.who⟩, ⟨rfl, wf_u32 h.epoch⟩, trivial⟩ (fits_append (fits_v8n h.nonce) (fits_append (fits_v8n h.mac) (fits_append (fits_v8n h.head) (fits_v8n h.body))))
theorem cells_inj {p q : PktD} (hp : p.ok) (hq : q.ok) (h : p.cells = q.cells) : p = q := by
  have e1 : v8 p.nonce = v8 q.nonce := by rw [← part_nonce hp, ← part_nonce hq, h]
  have e2 : v8 p.mac = v8 q.mac := by rw [← part_mac hp, ← part_mac hq, h]
  have e3 : v8 p.head = v8 q.head := by rw [← part_head hp, ← part_head hq, h]
  have e4 : v8 p.body = v8 q.body := by rw [← part_body hp, ← part_body hq, h]
  have h0 : p.cells[0]? = q.cells[0]? := by rw [h]
  have h1 : p.cells[1]? = q.cells[1]? := by rw [h]
  have e5 : p.who = q.who := by simp [cells] at h0; omega
  have e6 : p.epoch = q.epoch := by simp [cells] at h1; omega
  have f1 := SlotD.v8_inj e1
  have f2 := SlotD.v8_inj e2
  have f3 := SlotD.v8_inj e3
  have f4 := SlotD.v8_inj e4
  clear h e1 e2 e3 e4 h0 h1 hp hq
  cases p; cases q
  simp_all
/-- A packet of some parts. -/
theorem build_all {who epoch : Nat} {nonce mac head : List (BitVec 8)} (hn : nonce.length = 16) (hm : mac.length = 16) (hh : head.length = 320) :
    buildL places zero.cells [(0, [.int .u16 (who : Int)]), (1, [.int .u32 (epoch : Int)]), (2, v8 nonce), (3, v8 mac), (4, v8 head)] = some (PktD.mk who epoch nonce mac head (zs 256)).cells := by
  have z1 : zero.nonce.length = 16 := zs_length _
  have z2 : zero.mac.length = 16 := zs_length _
  have z3 : zero.head.length = 320 := zs_length _
  have l0 : zero.cells.length = 610 := cells_length zero_ok
  have l1 : ({ zero with who := who } : PktD).cells.length = 610 := by simp [cells, v8_length, zero, zs_length]
  have l2 : ({ zero with who := who, epoch := epoch } : PktD).cells.length = 610 := by simp [cells, v8_length, zero, zs_length]
  have l3 : ({ zero with who := who, epoch := epoch, nonce := nonce } : PktD).cells.length = 610 := by simp [cells, v8_length, zero, zs_length, hn]
  have l4 : ({ zero with who := who, epoch := epoch, nonce := nonce, mac := mac } : PktD).cells.length = 610 := by simp [cells, v8_length, zero, zs_length, hn, hm]
  have p1 := put_nonce (p := { zero with who := who, epoch := epoch }) z1 hn
  have p2 := put_mac (p := { zero with who := who, epoch := epoch, nonce := nonce }) hn z2 hm
  have p3 := put_head (p := { zero with who := who, epoch := epoch, nonce := nonce, mac := mac }) hn hm z3 hh
  simp only [buildL, places, List.getElem?_cons_zero, List.getElem?_cons_succ]
  simp only [List.length_singleton, true_and]
  rw [if_pos (by rw [l0]; omega), put_who zero who, if_pos (by rw [l1]; omega), put_epoch _ epoch, if_pos ⟨by rw [v8_length, hn], by rw [l2, v8_length, hn]; omega⟩, p1, if_pos ⟨by rw [v8_length, hm], by rw [l3, v8_length, hm]; omega⟩, p2, if_pos ⟨by rw [v8_length, hh], by rw [l4, v8_length, hh]; omega⟩, p3]
  rfl
theorem build_some {who epoch : Nat} {nonce head : List (BitVec 8)} (hn : nonce.length = 16) (hh : head.length = 320) :
    buildL places zero.cells [(0, [.int .u16 (who : Int)]), (1, [.int .u32 (epoch : Int)]), (2, v8 nonce), (4, v8 head)] = some (PktD.mk who epoch nonce (zs 16) head (zs 256)).cells := by
  have z1 : zero.nonce.length = 16 := zs_length _
  have z2 : zero.mac.length = 16 := zs_length _
  have z3 : zero.head.length = 320 := zs_length _
  have l0 : zero.cells.length = 610 := cells_length zero_ok
  have l1 : ({ zero with who := who } : PktD).cells.length = 610 := by simp [cells, v8_length, zero, zs_length]
  have l2 : ({ zero with who := who, epoch := epoch } : PktD).cells.length = 610 := by simp [cells, v8_length, zero, zs_length]
  have l3 : ({ zero with who := who, epoch := epoch, nonce := nonce } : PktD).cells.length = 610 := by simp [cells, v8_length, zero, zs_length, hn]
  have p1 := put_nonce (p := { zero with who := who, epoch := epoch }) z1 hn
  have p3 := put_head (p := { zero with who := who, epoch := epoch, nonce := nonce }) hn z2 z3 hh
  simp only [buildL, places, List.getElem?_cons_zero, List.getElem?_cons_succ]
  simp only [List.length_singleton, true_and]
  rw [if_pos (by rw [l0]; omega), put_who zero who, if_pos (by rw [l1]; omega), put_epoch _ epoch, if_pos ⟨by rw [v8_length, hn], by rw [l2, v8_length, hn]; omega⟩, p1, if_pos ⟨by rw [v8_length, hh], by rw [l3, v8_length, hh]; omega⟩, p3]
  rfl
theorem build_body {body : List (BitVec 8)} (hb : body.length = 256) : buildL places zero.cells [(5, v8 body)] = some (PktD.mk 0 0 (zs 16) (zs 16) (zs 320) body).cells := by
  have l0 : zero.cells.length = 610 := cells_length zero_ok
  have p1 := put_body (p := zero) (zs_length _) (zs_length _) (zs_length _) (zs_length _) hb
  simp only [buildL, places, List.getElem?_cons_zero, List.getElem?_cons_succ]
  rw [if_pos ⟨by rw [v8_length, hb], by rw [l0, v8_length, hb]; omega⟩, p1]
  rfl
end PktD
/-! ### Keys -/
structure KeysD where
  head : List (BitVec 8)
  body : List (BitVec 8)
  mac : List (BitVec 8)
  tag : List (BitVec 8)
namespace KeysD
structure ok (k : KeysD) : Prop where
  head : k.head.length = 32
  body : k.body.length = 32
  mac : k.mac.length = 32
  tag : k.tag.length = 32
def cells (k : KeysD) : List Value := v8 k.head ++ (v8 k.body ++ (v8 k.mac ++ v8 k.tag))
def zero : KeysD := ⟨zs 32, zs 32, zs 32, zs 32⟩
variable {k : KeysD}
theorem cells_length (h : k.ok) : k.cells.length = 128 := by simp [cells, v8_length, h.head, h.body, h.mac, h.tag]
theorem cells_one : ∀ u ∈ k.cells, u.oneCell' = true := fun u hu => by
  unfold cells at hu
  simp only [List.mem_append] at hu
  rcases hu with hu | hu | hu | hu
  all_goals exact v8_one _ u hu
theorem part_head (h : k.ok) : (k.cells.drop 0).take 32 = v8 k.head := part3 (A := []) rfl (by rw [v8_length, h.head])
theorem part_body (h : k.ok) : (k.cells.drop 32).take 32 = v8 k.body := part3 (by rw [v8_length, h.head]) (by rw [v8_length, h.body])
theorem part_mac (h : k.ok) : (k.cells.drop 64).take 32 = v8 k.mac := by
  unfold cells
  rw [← List.append_assoc]
  exact part3 (by simp [v8_length, h.head, h.body]) (by rw [v8_length, h.mac])
theorem part_tag (h : k.ok) : (k.cells.drop 96).take 32 = v8 k.tag := by
  unfold cells
  rw [← List.append_assoc, ← List.append_assoc]
  exact part2 (by simp [v8_length, h.head, h.body, h.mac]) (by rw [v8_length, h.tag])
def places : List (Nat × Nat) := [(0, 32), (32, 32), (64, 32), (96, 32)]
theorem build_all (h : k.ok) : buildL places zero.cells [(0, v8 k.head), (1, v8 k.body), (2, v8 k.mac), (3, v8 k.tag)] = some k.cells := by
  have z : (v8 (zs 32)).length = 32 := by rw [v8_length, zs_length]
  have a1 : (v8 k.head).length = 32 := by rw [v8_length, h.head]
  have a2 : (v8 k.body).length = 32 := by rw [v8_length, h.body]
  have a3 : (v8 k.mac).length = 32 := by rw [v8_length, h.mac]
  have a4 : (v8 k.tag).length = 32 := by rw [v8_length, h.tag]
  have e0 : zero.cells = v8 (zs 32) ++ (v8 (zs 32) ++ (v8 (zs 32) ++ v8 (zs 32))) := rfl
  rw [e0]
  unfold cells
  generalize v8 (zs 32) = Z at *
  generalize v8 k.head = A at *
  generalize v8 k.body = B at *
  generalize v8 k.mac = C at *
  generalize v8 k.tag = D at *
  have s1 : (Z ++ (Z ++ (Z ++ Z))).take 0 ++ A ++ (Z ++ (Z ++ (Z ++ Z))).drop (0 + A.length) = A ++ (Z ++ (Z ++ Z)) := splice3 (A := []) rfl (by omega)
  have s2 : (A ++ (Z ++ (Z ++ Z))).take 32 ++ B ++ (A ++ (Z ++ (Z ++ Z))).drop (32 + B.length) = A ++ (B ++ (Z ++ Z)) := splice3 a1 (by omega)
  have s3 : (A ++ (B ++ (Z ++ Z))).take 64 ++ C ++ (A ++ (B ++ (Z ++ Z))).drop (64 + C.length) = A ++ (B ++ (C ++ Z)) := by
    rw [← List.append_assoc A, splice3 (by simp [a1, a2]) (by omega), List.append_assoc]
  have s4 : (A ++ (B ++ (C ++ Z))).take 96 ++ D ++ (A ++ (B ++ (C ++ Z))).drop (96 + D.length) = A ++ (B ++ (C ++ D)) := by
    rw [← List.append_assoc B, ← List.append_assoc A, splice2 (by simp [a1, a2, a3]) (by omega), List.append_assoc, List.append_assoc]
  simp only [buildL, places, List.getElem?_cons_zero, List.getElem?_cons_succ]
  rw [if_pos ⟨a1, by simp [z, a1]⟩, s1, if_pos ⟨a2, by simp [z, a1, a2]⟩, s2, if_pos ⟨a3, by simp [z, a1, a2, a3]⟩, s3, if_pos ⟨a4, by simp [z, a1, a2, a3, a4]⟩, s4]
end KeysD
/-! ### Hops -/
structure HopD where
  addr : Nat
  who : Nat
  key : List (BitVec 8)
  epoch : Nat
  nonce : List (BitVec 8)
  lo : Nat
  hi : Nat
  delay : Nat
deriving DecidableEq
namespace HopD
structure ok (h : HopD) : Prop where
  addr : h.addr < 65536
  who : h.who < 65536
  key : h.key.length = 32
  epoch : h.epoch < 4294967296
  nonce : h.nonce.length = 16
  lo : h.lo < 18446744073709551616
  hi : h.hi < 18446744073709551616
  delay : h.delay < 4294967296
def cells (h : HopD) : List Value := [.int .u16 (h.addr : Int), .int .u16 (h.who : Int)] ++ (v8 h.key ++ ([.int .u32 (h.epoch : Int)] ++ (v8 h.nonce ++ [.int .u64 (h.lo : Int), .int .u64 (h.hi : Int), .int .u32 (h.delay : Int)])))
variable {h : HopD}
theorem cells_length (hk : h.key.length = 32) (hn : h.nonce.length = 16) : h.cells.length = 54 := by simp [cells, v8_length, hk, hn]
theorem cells_one : ∀ u ∈ h.cells, u.oneCell' = true := fun u hu => by
  unfold cells at hu
  simp only [List.mem_append] at hu
  rcases hu with hu | hu | hu | hu | hu
  · simp at hu; rcases hu with rfl | rfl <;> rfl
  · exact v8_one _ u hu
  · simp at hu; subst hu; rfl
  · exact v8_one _ u hu
  · simp at hu; rcases hu with rfl | rfl | rfl <;> rfl
theorem part_key (hk : h.key.length = 32) : (h.cells.drop 2).take 32 = v8 h.key := part3 rfl (by rw [v8_length, hk])
theorem part_nonce (hk : h.key.length = 32) (hn : h.nonce.length = 16) : (h.cells.drop 35).take 16 = v8 h.nonce := by
  unfold cells
  rw [← List.append_assoc, ← List.append_assoc]
  exact part3 (by simp [v8_length, hk]) (by rw [v8_length, hn])
theorem at_epoch (hk : h.key.length = 32) : h.cells[34]? = some (.int .u32 (h.epoch : Int)) := by
  unfold cells
  rw [← List.append_assoc, List.getElem?_append_right (by simp [v8_length, hk])]
  simp [v8_length, hk]
theorem at_post (hk : h.key.length = 32) (hn : h.nonce.length = 16) (j : Nat) : h.cells[51 + j]? = ([.int .u64 (h.lo : Int), .int .u64 (h.hi : Int), .int .u32 (h.delay : Int)] : List Value)[j]? := by
  unfold cells
  rw [← List.append_assoc, ← List.append_assoc, ← List.append_assoc, List.getElem?_append_right (by simp [v8_length, hk, hn])]
  congr 1
  simp [v8_length, hk, hn]
def kinds : List LK := [.i .u16, .i .u16] ++ (List.replicate 32 (.i .u8) ++ ([.i .u32] ++ (List.replicate 16 (.i .u8) ++ [.i .u64, .i .u64, .i .u32])))
theorem fits_cells (o : h.ok) : fits kinds h.cells :=
  fits_append ⟨⟨rfl, wf_u16 o.addr⟩, ⟨rfl, wf_u16 o.who⟩, trivial⟩ (fits_append (fits_v8n o.key) (fits_append ⟨⟨rfl, wf_u32 o.epoch⟩, trivial⟩ (fits_append (fits_v8n o.nonce) ⟨⟨rfl, wf_u64 o.lo⟩, ⟨rfl, wf_u64 o.hi⟩, ⟨rfl, wf_u32 o.delay⟩, trivial⟩)))
end HopD
/-! ### What is made of them -/
def sHead : ByteArray := ⟨#[104, 101, 97, 100]⟩
def sBody : ByteArray := ⟨#[98, 111, 100, 121]⟩
def sMac : ByteArray := ⟨#[109, 97, 99]⟩
def sTag : ByteArray := ⟨#[116, 97, 103]⟩
def kD (s : ByteArray) (key : List (BitVec 8)) (epoch : Nat) (nonce : List (BitVec 8)) : List (BitVec 8) := deriveOf key [labB s, beN 4 epoch, nonce]
def keysOf (key : List (BitVec 8)) (epoch : Nat) (nonce : List (BitVec 8)) : KeysD := ⟨kD sHead key epoch nonce, kD sBody key epoch nonce, kD sMac key epoch nonce, kD sTag key epoch nonce⟩
theorem keysOf_ok (key : List (BitVec 8)) (epoch : Nat) (nonce : List (BitVec 8)) : (keysOf key epoch nonce).ok := ⟨deriveOf_length _ _, deriveOf_length _ _, deriveOf_length _ _, deriveOf_length _ _⟩
def sumOf (k : KeysD) (p : PktD) : List (BitVec 8) := (hmacOf k.mac (beN 2 p.who ++ beN 4 p.epoch ++ p.nonce ++ p.head ++ p.body)).take 16
theorem sumOf_length (k : KeysD) (p : PktD) : (sumOf k p).length = 16 := by rw [sumOf, List.length_take, hmacOf_length]; rfl
def headsOf (k : KeysD) : List (BitVec 8) := streamOf k.head (zs 12) 384
def bodiesOf (k : KeysD) : List (BitVec 8) := streamOf k.body (zs 12) 256
theorem headsOf_length {k : KeysD} (h : k.ok) : (headsOf k).length = 384 := streamOf_length h.head (zs_length _) _
theorem bodiesOf_length {k : KeysD} (h : k.ok) : (bodiesOf k).length = 256 := streamOf_length h.body (zs_length _) _
def tagOf (key : List (BitVec 8)) (epoch : Nat) (nonce : List (BitVec 8)) : List (BitVec 8) := (keysOf key epoch nonce).tag.take 16
def macOf (key : List (BitVec 8)) (p : PktD) : List (BitVec 8) := sumOf (keysOf key p.epoch p.nonce) p
/-- What stands in a head when it is opened. -/
def openOf (key : List (BitVec 8)) (p : PktD) : List (BitVec 8) := xorB (p.head ++ zs 64) (headsOf (keysOf key p.epoch p.nonce))
theorem openOf_length (key : List (BitVec 8)) {p : PktD} (h : p.head.length = 320) : (openOf key p).length = 384 := by rw [openOf, xorB_length, List.length_append, zs_length, h, headsOf_length (keysOf_ok _ _ _)]; rfl
/-- A layer is taken off. -/
def peelOf (key : List (BitVec 8)) (p : PktD) : SlotD × PktD × Nat :=
  if macOf key p ≠ p.mac then (SlotD.zero, PktD.zero, 4)
  else match SlotD.dec ((openOf key p).take 64) with
    | none => (SlotD.zero, PktD.zero, 3)
    | some s => (s, ⟨s.who, s.epoch, s.nonce, s.mac, (openOf key p).drop 64, xorB p.body (bodiesOf (keysOf key p.epoch p.nonce))⟩, 0)
def HopD.keys (h : HopD) : KeysD := keysOf h.key h.epoch h.nonce
/-- What hops make of the places behind. -/
def fillOf : List HopD → List (BitVec 8) → List (BitVec 8)
  | [], b => b
  | h :: hs, b => fillOf hs (xorB (b ++ zs 64) ((headsOf h.keys).drop (384 - (b.length + 64))))
/-- What a hop is told. -/
def slotOf (h : HopD) (next : Option HopD) (behind : PktD) (box : Nat) : SlotD :=
  match next with
  | none => ⟨true, 0, box, 0, 0, zs 16, zs 16, h.lo, h.hi, h.delay⟩
  | some n => ⟨false, n.addr, 0, n.who, n.epoch, n.nonce, behind.mac, h.lo, h.hi, h.delay⟩
/-- A layer around a packet. -/
def wrapOf (h : HopD) (p : PktD) (s : SlotD) (e : List (BitVec 8)) : Option PktD :=
  if s.right then
    let out : PktD := ⟨h.who, h.epoch, h.nonce, zs 16, (xorB (s.bytes ++ p.head.take 256) (headsOf h.keys)).take (320 - e.length) ++ e, xorB p.body (bodiesOf h.keys)⟩
    some { out with mac := sumOf h.keys out }
  else none
/-- From the last hop on: what is made of those in front (hops reversed). -/
def buildR : List HopD → Option HopD → PktD → List (BitVec 8) → Nat → Option PktD
  | [], _, p, _, _ => some p
  | h :: hs, next, p, e, box => (wrapOf h p (slotOf h next p box) e).bind fun q => buildR hs (some h) q [] box
def buildOf (hops : List HopD) (box : Nat) (body : List (BitVec 8)) : Option PktD :=
  if hops.length < 1 ∨ 5 < hops.length then none
  else buildR hops.reverse none { PktD.zero with body := body } (fillOf hops.dropLast []) box
end Go.Hg
