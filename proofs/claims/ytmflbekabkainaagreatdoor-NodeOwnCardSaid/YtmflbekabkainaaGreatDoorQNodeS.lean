import Derived.Test.YtmflbekabkainaaGreatDoorQNHeapS
import Derived.Test.YtmflbekabkainaaGreatDoorQMaps
set_option linter.unusedSectionVars false
set_option linter.unusedVariables false
set_option linter.unusedSimpArgs false
namespace Go.Hg
abbrev Bytes := List (BitVec 8)
def unpackOf (b : Bytes) : PktD := ⟨deN (b.take 2), deN ((b.drop 2).take 4), (b.drop 6).take 16, (b.drop 22).take 16, (b.drop 38).take 320, (b.drop 358).take 256⟩
def packOf (p : PktD) : Bytes := beN 2 p.who ++ beN 4 p.epoch ++ p.nonce ++ p.mac ++ p.head ++ p.body
theorem packOf_length {p : PktD} (h : p.ok) : (packOf p).length = 614 := by simp [packOf, beN_length, h.nonce, h.mac, h.head, h.body]
theorem unpackOf_ok {b : Bytes} (h : b.length = 614) : (unpackOf b).ok := by
 refine ⟨?_, ?_, ?_, ?_, ?_, ?_⟩
 · have := deN_lt (b.take 2)
   rw [List.length_take, h] at this
   exact this
 · have := deN_lt ((b.drop 2).take 4)
   rw [List.length_take, List.length_drop, h] at this
   exact this
 all_goals simp [unpackOf, h]
theorem unpack_pack {p : PktD} (h : p.ok) : unpackOf (packOf p) = p := by
 have e1 : (packOf p).take 2 = beN 2 p.who := by
  simp only [packOf, List.append_assoc]
  rw [List.take_append_of_le_length (by rw [beN_length]; omega), List.take_of_length_le (by rw [beN_length]; omega)]
 have d2 : (packOf p).drop 2 = beN 4 p.epoch ++ (p.nonce ++ (p.mac ++ (p.head ++ p.body))) := by
  simp only [packOf, List.append_assoc]
  rw [List.drop_append_of_le_length (by rw [beN_length]; omega), List.drop_of_length_le (by rw [beN_length]; omega), List.nil_append]
 have d6 : (packOf p).drop 6 = p.nonce ++ (p.mac ++ (p.head ++ p.body)) := by
  rw [show 6 = 2 + 4 from rfl, ← List.drop_drop, d2, List.drop_append_of_le_length (by rw [beN_length]; omega), List.drop_of_length_le (by rw [beN_length]; omega), List.nil_append]
 have d22 : (packOf p).drop 22 = p.mac ++ (p.head ++ p.body) := by
  rw [show 22 = 6 + 16 from rfl, ← List.drop_drop, d6, ← h.nonce, List.drop_left]
 have d38 : (packOf p).drop 38 = p.head ++ p.body := by
  rw [show 38 = 22 + 16 from rfl, ← List.drop_drop, d22, ← h.mac, List.drop_left]
 have d358 : (packOf p).drop 358 = p.body := by
  rw [show 358 = 38 + 320 from rfl, ← List.drop_drop, d38, ← h.head, List.drop_left]
 have t1 : (p.nonce ++ (p.mac ++ (p.head ++ p.body))).take 16 = p.nonce := by rw [← h.nonce, List.take_left]
 have t2 : (p.mac ++ (p.head ++ p.body)).take 16 = p.mac := by rw [← h.mac, List.take_left]
 have t3 : (p.head ++ p.body).take 320 = p.head := by rw [← h.head, List.take_left]
 have t4 : p.body.take 256 = p.body := by rw [← h.body, List.take_length]
 unfold unpackOf
 rw [e1, d2, d6, d22, d38, d358, deN_beN_lt h.who, List.take_append_of_le_length (by rw [beN_length]; omega), List.take_of_length_le (by rw [beN_length]; omega), deN_beN_lt h.epoch, t1, t2, t3, t4]
abbrev Tg := Nat × Bytes
structure NodeD where
 addr : Nat
 room : Nat
 tags : Nat
 cl : List (Nat × Bytes)
 hp : List Thing
 nx : Nat
 seen : List (Tg × Bool)
 many : List (Nat × Nat)
 floor : Nat
 mail : List (List Bytes)
 drops : List Nat
namespace NodeD
def drop (s : NodeD) (e : Nat) : NodeD := { s with drops := s.drops.set e (s.drops.getD e 0 + 1) }
def client (s : NodeD) (who : Nat) (key : Bytes) : NodeD × Nat := if mlook s.cl who = none ∧ 16 ≤ s.cl.length then (s, 8) else ({ s with cl := upd s.cl who key }, 0)
def keyOf (s : NodeD) (p : PktD) : Bytes := (mlook s.cl p.who).getD []
def openE (s : NodeD) (p : PktD) (now : Nat) : Nat :=
 if mlook s.cl p.who = none then 10 else if now / 1000 < 4294967296 ∧ (p.epoch = now / 1000 ∨ p.epoch + 1 = now / 1000) then 0 else 11
def freshE (s : NodeD) (t : Tg) : Nat :=
 if t.1 < s.floor then 11 else if (mlook s.seen t).getD false then 7 else if s.room ≤ s.hp.length ∨ s.tags ≤ (mlook s.many t.1).getD 0 then 8 else 0
def tagP (s : NodeD) (p : PktD) : Tg := (p.epoch, tagOf (s.keyOf p) p.epoch p.nonce)
def peelP (s : NodeD) (p : PktD) : SlotD × PktD × Nat := peelOf (s.keyOf p) p
def takeE (s : NodeD) (b : Bytes) (now : Nat) : Nat :=
 if b.length < 614 then 2 else if 614 < b.length then 3 else
 if s.openE (unpackOf b) now ≠ 0 then s.openE (unpackOf b) now else
 if (s.peelP (unpackOf b)).2.2 ≠ 0 then (s.peelP (unpackOf b)).2.2 else
 if now < (s.peelP (unpackOf b)).1.lo then 5 else if (s.peelP (unpackOf b)).1.hi < now then 6 else
 if 18446744073709551616 ≤ now + (s.peelP (unpackOf b)).1.delay then 9 else s.freshE (s.tagP (unpackOf b))
def add (s : NodeD) (t : Tg) (at_ : Nat) (x : WtO) : NodeD :=
 { s with seen := upd s.seen t true, many := upd s.many t.1 ((mlook s.many t.1).getD 0 + 1), hp := s.hp ++ [((at_ : Int), (s.nx : Int), x)], nx := s.nx + 1 }
open Classical in
noncomputable def wtOf (r : SlotD × PktD × Nat) : WtO := if h : r.1.ok ∧ r.2.1.ok then ⟨⟨r.1, r.2.1⟩, h.1, h.2⟩ else default
noncomputable def take (s : NodeD) (b : Bytes) (now : Nat) : NodeD :=
 if s.takeE b now = 0 then s.add (s.tagP (unpackOf b)) (now + (s.peelP (unpackOf b)).1.delay) (wtOf (s.peelP (unpackOf b))) else s.drop (s.takeE b now)
def expire (s : NodeD) (now : Nat) : NodeD :=
 if now / 1000 < 4294967296 ∧ 0 < now / 1000 then
  { s with floor := max s.floor (now / 1000 - 1), seen := s.seen.filter fun p => decide (max s.floor (now / 1000 - 1) ≤ p.1.1), many := s.many.filter fun p => decide (max s.floor (now / 1000 - 1) ≤ p.1) }
 else s
def boxE (s : NodeD) (k : Nat) : Nat := if s.mail.length ≤ k then 10 else if 64 ≤ (s.mail.getD k []).length then 8 else 0
def put (s : NodeD) (k : Nat) (b : Bytes) : NodeD := if s.boxE k = 0 then { s with mail := s.mail.set k (s.mail.getD k [] ++ [b]) } else s.drop (s.boxE k)
def pop (s : NodeD) (now : Nat) : NodeD := if (popX s.hp now).1.s.last then put { s with hp := popR s.hp now } (popX s.hp now).1.s.box (popX s.hp now).1.p.body else { s with hp := popR s.hp now }
def popO (s : NodeD) (now : Nat) : List (Nat × Bytes) := if (popX s.hp now).1.s.last then [] else [((popX s.hp now).1.s.next, packOf (popX s.hp now).1.p)]
def pops : Nat → NodeD → Nat → NodeD
 | 0, s, _ => s
 | n + 1, s, now => if popB s.hp now then pops n (s.pop now) now else s
def popsO : Nat → NodeD → Nat → List (Nat × Bytes)
 | 0, _, _ => []
 | n + 1, s, now => if popB s.hp now then s.popO now ++ popsO n (s.pop now) now else []
def tick (s : NodeD) (now : Nat) : NodeD := pops s.hp.length (s.expire now) now
def tickO (s : NodeD) (now : Nat) : List (Nat × Bytes) := popsO s.hp.length (s.expire now) now
def fresh (addr : Nat) (room tags boxes : Int) : NodeD :=
 ⟨addr, (min (max room 1) 64).toNat, (min (max tags 1) 256).toNat, [], [], 0, [], [], 0, List.replicate (min (max boxes 0) 64).toNat [], List.replicate 13 0⟩
structure ok (s : NodeD) (n m : Nat) : Prop where
 addr : s.addr < 65536
 room : 1 ≤ s.room ∧ s.room ≤ 64
 tags : 1 ≤ s.tags ∧ s.tags ≤ 256
 keys : ∀ p ∈ s.cl, p.2.length = 32
 row : RowOK s.hp s.nx
 len : s.hp.length ≤ s.room
 ticks : ∀ t ∈ s.hp, 0 ≤ t.1 ∧ t.1 < 18446744073709551616
 nx : s.nx ≤ n
 floor : s.floor < 4294967296
 many : ∀ p ∈ s.many, p.2 ≤ s.tags
 boxes : s.mail.length ≤ 64
 bodies : ∀ l ∈ s.mail, l.length ≤ 64 ∧ ∀ b ∈ l, b.length = 256
 dlen : s.drops.length = 13
 drops : ∀ d ∈ s.drops, d ≤ m
 seenN : s.seen.length ≤ n
 manyN : s.many.length ≤ n
theorem drop_ok {s : NodeD} {n m : Nat} (h : s.ok n m) (e : Nat) : (s.drop e).ok n (m + 1) := by
 refine ⟨h.addr, h.room, h.tags, h.keys, h.row, h.len, h.ticks, h.nx, h.floor, h.many, h.boxes, h.bodies, ?_, fun d hd => ?_, h.seenN, h.manyN⟩
 · simp [drop, h.dlen]
 · rcases List.mem_or_eq_of_mem_set hd with hd | rfl
   · exact Nat.le_succ_of_le (h.drops d hd)
   · rw [List.getD_eq_getElem?_getD]
     cases hx : s.drops[e]? with
     | none => simp
     | some x => have := h.drops x (List.mem_of_getElem? hx); simp; omega
theorem ok.mono {s : NodeD} {n m n' m' : Nat} (h : s.ok n m) (hn : n ≤ n') (hm : m ≤ m') : s.ok n' m' :=
 ⟨h.addr, h.room, h.tags, h.keys, h.row, h.len, h.ticks, Nat.le_trans h.nx hn, h.floor, h.many, h.boxes, h.bodies, h.dlen, fun d hd => Nat.le_trans (h.drops d hd) hm, Nat.le_trans h.seenN hn, Nat.le_trans h.manyN hn⟩
theorem upd_len {α β : Type} [DecidableEq α] (l : List (α × β)) (x : α) (v : β) : (upd l x v).length ≤ l.length + 1 := by
 unfold upd
 split <;> simp
theorem upd_mem {α β : Type} [DecidableEq α] {l : List (α × β)} {x : α} {v : β} {p : α × β} (h : p ∈ upd l x v) : p = (x, v) ∨ p ∈ l := by
 unfold upd at h
 split at h
 · obtain ⟨q, hq, rfl⟩ := List.mem_map.1 h
   split
   · exact .inl rfl
   · exact .inr hq
 · rcases List.mem_append.1 h with h | h
   · exact .inr h
   · simp at h; exact .inl h
theorem client_ok {s : NodeD} {n m : Nat} (h : s.ok n m) (who : Nat) {key : Bytes} (hk : key.length = 32) : (s.client who key).1.ok n m := by
 unfold client
 split
 · exact h
 · refine ⟨h.addr, h.room, h.tags, fun p hp => ?_, h.row, h.len, h.ticks, h.nx, h.floor, h.many, h.boxes, h.bodies, h.dlen, h.drops, h.seenN, h.manyN⟩
   rcases upd_mem hp with rfl | hp
   · exact hk
   · exact h.keys p hp
theorem takeE_zero {s : NodeD} {b : Bytes} {now : Nat} (h : s.takeE b now = 0) : b.length = 614 ∧ s.openE (unpackOf b) now = 0 ∧ (s.peelP (unpackOf b)).2.2 = 0 ∧ (s.peelP (unpackOf b)).1.lo ≤ now ∧ now ≤ (s.peelP (unpackOf b)).1.hi ∧
    now + (s.peelP (unpackOf b)).1.delay < 18446744073709551616 ∧ s.freshE (s.tagP (unpackOf b)) = 0 := by
 unfold takeE at h
 repeat' split at h
 all_goals first
  | omega
  | (rename_i h1 h2 h3 h4 h5 h6 h7
     exact ⟨by omega, by omega, by omega, by omega, by omega, by omega, h⟩)
theorem peel_err (key : Bytes) (p : PktD) : (peelOf key p).2.2 ≤ 4 := by
 unfold peelOf
 split
 · exact Nat.le_refl 4
 · split <;> simp
theorem takeE_le (s : NodeD) (b : Bytes) (now : Nat) : s.takeE b now ≤ 12 := by
 unfold takeE openE freshE
 have := peel_err (s.keyOf (unpackOf b)) (unpackOf b)
 unfold peelP
 repeat' split
 all_goals omega
theorem freshE_zero {s : NodeD} {t : Tg} (h : s.freshE t = 0) : s.floor ≤ t.1 ∧ (mlook s.seen t).getD false = false ∧ s.hp.length < s.room ∧ (mlook s.many t.1).getD 0 < s.tags := by
 unfold freshE at h
 repeat' split at h
 all_goals first
  | omega
  | (rename_i h1 h2 h3
     exact ⟨by omega, by simpa using h2, by omega, by omega⟩)
theorem add_ok {s : NodeD} {n m : Nat} (h : s.ok n m) {t : Tg} {at_ : Nat} {x : WtO} (hf : s.freshE t = 0) (ha : at_ < 18446744073709551616) : (s.add t at_ x).ok (n + 1) m := by
 obtain ⟨h1, h2, h3, h4⟩ := freshE_zero hf
 refine ⟨h.addr, h.room, h.tags, h.keys, ?_, ?_, fun u hu => ?_, Nat.succ_le_succ h.nx, h.floor, fun p hp => ?_, h.boxes, h.bodies, h.dlen, h.drops, ?_, ?_⟩
 · exact_mod_cast h.row.push _ _
 · simp [add]; omega
 · rcases List.mem_append.1 hu with hu | hu
   · exact h.ticks u hu
   · simp at hu; subst hu; exact ⟨by simp, by simp; omega⟩
 · rcases upd_mem hp with rfl | hp
   · exact h4
   · exact h.many p hp
 · exact Nat.le_trans (upd_len _ _ _) (Nat.succ_le_succ h.seenN)
 · exact Nat.le_trans (upd_len _ _ _) (Nat.succ_le_succ h.manyN)
theorem take_ok {s : NodeD} {n m : Nat} (h : s.ok n m) (b : Bytes) (now : Nat) : (s.take b now).ok (n + 1) (m + 1) := by
 unfold take
 split
 · rename_i h0
   obtain ⟨_, _, _, _, _, h6, h7⟩ := takeE_zero h0
   exact (add_ok h h7 h6).mono (Nat.le_refl _) (Nat.le_succ _)
 · exact (drop_ok h _).mono (Nat.le_succ _) (Nat.le_refl _)
theorem expire_ok {s : NodeD} {n m : Nat} (h : s.ok n m) (now : Nat) : (s.expire now).ok n m := by
 unfold expire
 split
 · rename_i hc
   refine ⟨h.addr, h.room, h.tags, h.keys, h.row, h.len, h.ticks, h.nx, ?_, fun p hp => h.many p (List.mem_filter.1 hp).1, h.boxes, h.bodies, h.dlen, h.drops, Nat.le_trans (List.length_filter_le _ _) h.seenN, Nat.le_trans (List.length_filter_le _ _) h.manyN⟩
   have := h.floor
   show max s.floor (now / 1000 - 1) < 4294967296
   omega
 · exact h
theorem put_ok {s : NodeD} {n m : Nat} (h : s.ok n m) (k : Nat) {b : Bytes} (hb : b.length = 256) : (s.put k b).ok n (m + 1) := by
 unfold put
 split
 · rename_i h0
   unfold boxE at h0
   refine ⟨h.addr, h.room, h.tags, h.keys, h.row, h.len, h.ticks, h.nx, h.floor, h.many, ?_, fun l hl => ?_, h.dlen, fun d hd => Nat.le_succ_of_le (h.drops d hd), h.seenN, h.manyN⟩
   · simp; exact h.boxes
   · rcases List.mem_or_eq_of_mem_set hl with hl | rfl
     · exact h.bodies l hl
     · have hx : ∀ c ∈ s.mail.getD k [], c.length = 256 := fun c hc => by
         rw [List.getD_eq_getElem?_getD] at hc
         cases hx : s.mail[k]? with
         | none => rw [hx] at hc; simp at hc
         | some x => rw [hx] at hc; exact (h.bodies x (List.mem_of_getElem? hx)).2 c hc
       refine ⟨?_, fun c hc => ?_⟩
       · rw [List.length_append]
         split at h0
         · omega
         · split at h0
           · omega
           · rw [List.length_singleton]; omega
       · rcases List.mem_append.1 hc with hc | hc
         · exact hx c hc
         · simp at hc; subst hc; exact hb
 · exact drop_ok h _
theorem popB_len {L : List Thing} {now : Int} (h : popB L now = true) : (popR L now).length + 1 = L.length := by
 have := (pop_true h).2.2.2.1
 rw [popR_length, if_pos h]
 omega
theorem pop_ok {s : NodeD} {n m : Nat} (h : s.ok n m) (now : Nat) : (s.pop now).ok n (m + 1) := by
 have h1 : ({ s with hp := popR s.hp now } : NodeD).ok n m :=
  ⟨h.addr, h.room, h.tags, h.keys, h.row.popR _, Nat.le_trans (popR_le _ _) h.len, fun u hu => h.ticks u (popR_sub hu), h.nx, h.floor, h.many, h.boxes, h.bodies, h.dlen, h.drops, h.seenN, h.manyN⟩
 unfold pop
 split
 · exact put_ok h1 _ (popX s.hp now).2.p.body
 · exact h1.mono (Nat.le_refl _) (Nat.le_succ _)
theorem put_hp (s : NodeD) (k : Nat) (b : Bytes) : (s.put k b).hp = s.hp := by
 unfold put
 split <;> rfl
theorem pop_hp (s : NodeD) (now : Nat) : (s.pop now).hp = popR s.hp now := by
 unfold pop
 split
 · rw [put_hp]
 · rfl
theorem pops_ok {now : Nat} : ∀ {k : Nat} {s : NodeD} {n m : Nat}, s.ok n m → (pops k s now).ok n (m + k)
 | 0, s, n, m, h => h
 | k + 1, s, n, m, h => by
  unfold pops
  split
  · exact (pops_ok (pop_ok h now)).mono (Nat.le_refl _) (by omega)
  · exact h.mono (Nat.le_refl _) (by omega)
theorem tick_ok {s : NodeD} {n m : Nat} (h : s.ok n m) (now : Nat) : (s.tick now).ok n (m + 64) :=
 (pops_ok (expire_ok h now)).mono (Nat.le_refl _) (by have := h.len; have := h.room; omega)
theorem fresh_ok {addr : Nat} (ha : addr < 65536) (room tags boxes : Int) : (fresh addr room tags boxes).ok 0 0 := by
 refine ⟨ha, ?_, ?_, by simp [fresh], RowOK.nil _, by simp [fresh], by simp [fresh], Nat.le_refl _, by simp [fresh], by simp [fresh], ?_, ?_, by simp [fresh], ?_, by simp [fresh], by simp [fresh]⟩
 · simp only [fresh]; omega
 · simp only [fresh]; omega
 · simp only [fresh, List.length_replicate]; omega
 · intro l hl
   simp only [fresh] at hl
   rw [(List.mem_replicate.1 hl).2]
   simp
 · intro d hd
   simp only [fresh] at hd
   rw [(List.mem_replicate.1 hd).2]
   exact Nat.le_refl _
end NodeD
end Go.Hg
