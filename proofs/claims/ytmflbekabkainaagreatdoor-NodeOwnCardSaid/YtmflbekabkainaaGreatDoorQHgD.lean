import Derived.Test.YtmflbekabkainaaGreatDoorQHgC
import Derived.Test.YtmflbekabkainaaGreatDoorQHgA
import Derived.Lib.LaidTab
set_option linter.unusedVariables false
set_option linter.unusedSimpArgs false
namespace Go.Hg
open Go.RowKit
theorem fillOf_snoc (h : HopD) : ∀ (l : List HopD) (b : List (BitVec 8)), fillOf (l ++ [h]) b = xorB (fillOf l b ++ zs 64) ((headsOf h.keys).drop (384 - ((fillOf l b).length + 64)))
 | [], _ => rfl
 | _ :: l, _ => fillOf_snoc h l _
theorem fillOf_length : ∀ (l : List HopD) (b : List (BitVec 8)), b.length + 64 * l.length ≤ 384 → (fillOf l b).length = b.length + 64 * l.length
 | [], _, _ => by simp [fillOf]
 | h :: l, b, hb => by
  rw [List.length_cons] at hb ⊢
  have e : (xorB (b ++ zs 64) ((headsOf h.keys).drop (384 - (b.length + 64)))).length = b.length + 64 := by
   rw [xorB_length, List.length_append, zs_length, List.length_drop, headsOf_length (show h.keys.ok from keysOf_ok _ _ _)]
   omega
  show (fillOf l _).length = _
  rw [fillOf_length l _ (by rw [e]; omega), e]
  omega
abbrev HopO := { h : HopD // h.ok }
def fillN (hops : List HopO) (i : Nat) : List (BitVec 8) := fillOf ((hops.take i).map (·.1)) []
theorem fillN_length {hops : List HopO} {i : Nat} (hi : i ≤ hops.length) (h6 : hops.length ≤ 6) : (fillN hops i).length = 64 * i := by
 unfold fillN
 rw [fillOf_length _ _ (by rw [List.length_map, List.length_take]; simp; omega), List.length_map, List.length_take]
 simp
 omega
theorem fillN_succ {hops : List HopO} {i : Nat} {h : HopO} (hx : hops[i]? = some h) {n : Nat} (hn : n = (fillN hops i).length) : xorB (fillN hops i ++ zs 64) ((headsOf h.1.keys).drop (384 - (n + 64))) = fillN hops (i + 1) := by
 subst hn
 unfold fillN
 rw [List.take_add_one, hx]
 simp only [Option.toList_some, List.map_append, List.map_cons, List.map_nil]
 rw [fillOf_snoc]
theorem slotOf_ok {h : HopD} {next : Option HopD} {p : PktD} {box : Nat} (o : h.ok) (on : ∀ n, next = some n → n.ok) (po : p.ok) (hb : box < 65536) : (slotOf h next p box).ok := by
 cases next with
 | none => exact ⟨by simp [slotOf], by simpa [slotOf] using hb, by simp [slotOf], by simp [slotOf], zs_length _, zs_length _, o.lo, o.hi, o.delay⟩
 | some n =>
  have on := on n rfl
  exact ⟨on.addr, by simp [slotOf], on.who, on.epoch, on.nonce, po.mac, o.lo, o.hi, o.delay⟩
theorem take_rev {hops : List HopO} {c : Nat} {h : HopO} (hx : hops[c]? = some h) : ((hops.take (c + 1)).map (·.1)).reverse = h.1 :: ((hops.take c).map (·.1)).reverse := by
 rw [List.take_add_one, hx]
 simp
def BldE (r : Option PktD) : Int := if r.isSome then 0 else 1
end Go.Hg
namespace Go.Hg
open Go.RowKit
theorem xorB_take (a b : List (BitVec 8)) (n : Nat) : (xorB a b).take n = xorB (a.take n) (b.take n) := by
 unfold xorB
 rw [List.take_zipWith]
theorem xorB_drop (a b : List (BitVec 8)) (n : Nat) : (xorB a b).drop n = xorB (a.drop n) (b.drop n) := by
 unfold xorB
 rw [List.drop_zipWith]
theorem xorB_append {a c : List (BitVec 8)} (b : List (BitVec 8)) : xorB (a ++ c) b = xorB a b ++ xorB c (b.drop a.length) := by
 induction a generalizing b with
 | nil => simp [xorB]
 | cons x a ih =>
  cases b with
  | nil => simp [xorB]
  | cons y b =>
   have := ih b
   unfold xorB at this ⊢
   simp [this]
theorem xorB_self {a : List (BitVec 8)} (b : List (BitVec 8)) (h : a.length ≤ b.length) : xorB (xorB a b) b = a := by
 induction a generalizing b with
 | nil => simp [xorB]
 | cons x a ih =>
  cases b with
  | nil => simp at h
  | cons y b =>
   have := ih b (by simpa using h)
   unfold xorB at this ⊢
   simp [this, BitVec.xor_assoc]
theorem xorB_zs (b : List (BitVec 8)) {n : Nat} (h : b.length = n) : xorB (zs n) b = b := by
 subst h
 induction b with
 | nil => rfl
 | cons y b ih =>
  have ih' : xorB (List.replicate b.length 0) b = b := ih
  unfold zs
  rw [List.length_cons, List.replicate_succ]
  unfold xorB at ih' ⊢
  rw [List.zipWith_cons_cons, ih']
  simp
theorem xorB_left {a b : List (BitVec 8)} {n : Nat} (ha : a.length = n) : xorB a b = xorB a (b.take n) := by
 subst ha
 induction a generalizing b with
 | nil => simp [xorB]
 | cons x a ih =>
  cases b with
  | nil => simp [xorB]
  | cons y b =>
   have := ih (b := b)
   unfold xorB at this ⊢
   simp only [List.zipWith_cons_cons, List.length_cons, List.take_succ_cons, List.cons.injEq, true_and]
   exact this
def innerOf (s : SlotD) (hd body : List (BitVec 8)) : PktD := ⟨s.who, s.epoch, s.nonce, s.mac, hd, body⟩
theorem slotOf_right {h : HopD} {next : Option HopD} {p : PktD} {box : Nat} (hl : h.lo ≤ h.hi) : (slotOf h next p box).right = true := by
 unfold SlotD.right
 cases next <;> simp [slotOf, SlotD.only, hl]
theorem right_lo {s : SlotD} (h : s.right = true) : s.lo ≤ s.hi := (of_decide_eq_true h).1
theorem slotOf_lo {h : HopD} {next : Option HopD} {p : PktD} {box : Nat} : (slotOf h next p box).lo = h.lo ∧ (slotOf h next p box).hi = h.hi := by cases next <;> exact ⟨rfl, rfl⟩
theorem slotOf_right_iff {h : HopD} {next : Option HopD} {p : PktD} {box : Nat} : (slotOf h next p box).right = decide (h.lo ≤ h.hi) := by
 by_cases hl : h.lo ≤ h.hi
 · rw [slotOf_right hl]; simp [hl]
 · cases hr : (slotOf h next p box).right with
   | false => simp [hl]
   | true =>
    have := right_lo hr
    rw [slotOf_lo.1, slotOf_lo.2] at this
    exact absurd this hl
theorem peel_wrap {h : HopD} {p q : PktD} {s : SlotD} {e : List (BitVec 8)} (o : h.ok) (po : p.ok) (so : s.ok) (he : e.length ≤ 256) (hw : wrapOf h p s e = some q) :
    peelOf h.key q = (s, innerOf s ((xorB (q.head ++ zs 64) (headsOf h.keys)).drop 64) p.body, 0) ∧ (q.who = h.who ∧ q.epoch = h.epoch ∧ q.nonce = h.nonce) ∧
    q.head = (xorB (s.bytes ++ p.head.take 256) (headsOf h.keys)).take (320 - e.length) ++ e := by
 unfold wrapOf at hw
 split at hw
 · rename_i hr
   have hw := Option.some.inj hw
   have hk : (h.keys).ok := keysOf_ok _ _ _
   have hbl : s.bytes.length = 64 := SlotD.bytes_length so.nonce so.mac
   have hhl := headsOf_length hk
   subst hw
   refine ⟨?_, ⟨rfl, rfl, rfl⟩, rfl⟩
   unfold peelOf
   have hm : macOf h.key { { who := h.who, epoch := h.epoch, nonce := h.nonce, mac := zs 16, head := (xorB (s.bytes ++ p.head.take 256) (headsOf h.keys)).take (320 - e.length) ++ e, body := xorB p.body (bodiesOf h.keys) : PktD } with mac := sumOf h.keys { who := h.who, epoch := h.epoch, nonce := h.nonce, mac := zs 16, head := (xorB (s.bytes ++ p.head.take 256) (headsOf h.keys)).take (320 - e.length) ++ e, body := xorB p.body (bodiesOf h.keys) } } = sumOf h.keys { who := h.who, epoch := h.epoch, nonce := h.nonce, mac := zs 16, head := (xorB (s.bytes ++ p.head.take 256) (headsOf h.keys)).take (320 - e.length) ++ e, body := xorB p.body (bodiesOf h.keys) } := rfl
   rw [if_neg (by rw [hm]; simp)]
   have hx : (xorB (s.bytes ++ p.head.take 256) (headsOf h.keys)).length = 320 := by rw [xorB_length, List.length_append, hbl, List.length_take, po.head, hhl]; rfl
   have ho : (openOf h.key { who := h.who, epoch := h.epoch, nonce := h.nonce, mac := sumOf h.keys { who := h.who, epoch := h.epoch, nonce := h.nonce, mac := zs 16, head := (xorB (s.bytes ++ p.head.take 256) (headsOf h.keys)).take (320 - e.length) ++ e, body := xorB p.body (bodiesOf h.keys) }, head := (xorB (s.bytes ++ p.head.take 256) (headsOf h.keys)).take (320 - e.length) ++ e, body := xorB p.body (bodiesOf h.keys) }).take 64 = s.bytes := by
    show (xorB (((xorB (s.bytes ++ p.head.take 256) (headsOf h.keys)).take (320 - e.length) ++ e) ++ zs 64) (headsOf h.keys)).take 64 = s.bytes
    rw [xorB_take, List.append_assoc, List.take_append_of_le_length (by rw [List.length_take, hx]; omega), List.take_take, Nat.min_eq_left (by omega), xorB_take, List.take_append_of_le_length (by omega), List.take_of_length_le (by omega)]
    exact xorB_self _ (by rw [List.length_take, hhl, hbl]; omega)
   simp only [ho, SlotD.dec_bytes so hr]
   refine Prod.ext rfl (Prod.ext ?_ rfl)
   unfold innerOf
   simp only [PktD.mk.injEq, true_and]
   refine ⟨rfl, ?_⟩
   exact xorB_self _ (by rw [po.body, bodiesOf_length hk]; omega)
 · cases hw
def fillStep (f : List (BitVec 8)) (h : HopD) : List (BitVec 8) := xorB (f ++ zs 64) ((headsOf h.keys).drop (384 - (f.length + 64)))
def lastP (body : List (BitVec 8)) : PktD := { PktD.zero with body := body }
def buildF (box : Nat) (body : List (BitVec 8)) : List HopD → List (BitVec 8) → Option PktD
 | [], _ => none
 | [h], f => wrapOf h (lastP body) (slotOf h none (lastP body) box) f
 | h :: n :: rest, f => (buildF box body (n :: rest) (fillStep f h)).bind fun q => wrapOf h q (slotOf h (some n) q box) []
theorem buildR_append (h : HopD) (box : Nat) : ∀ (xs : List HopD) (next : Option HopD) (p : PktD) (e : List (BitVec 8)),
    buildR (xs ++ [h]) next p e box = (buildR xs next p e box).bind fun q => match xs.getLast? with
     | none => wrapOf h q (slotOf h next q box) e
     | some n => wrapOf h q (slotOf h (some n) q box) []
 | [], next, p, e => by
  show (wrapOf h p (slotOf h next p box) e).bind some = wrapOf h p (slotOf h next p box) e
  cases wrapOf h p (slotOf h next p box) e <;> rfl
 | x :: xs, next, p, e => by
  show (wrapOf x p (slotOf x next p box) e).bind (fun q => buildR (xs ++ [h]) (some x) q [] box) = ((wrapOf x p (slotOf x next p box) e).bind fun q => buildR xs (some x) q [] box).bind _
  rw [Option.bind_assoc]
  congr 1
  funext q
  rw [buildR_append h box xs]
  congr 1
  funext r
  cases hx : xs.getLast? with
  | none =>
   have : xs = [] := List.getLast?_eq_none_iff.1 hx
   subst this
   rfl
  | some n =>
   have : (x :: xs).getLast? = some n := by
    rw [List.getLast?_cons, hx]
    rfl
   rw [this]
theorem buildR_F (box : Nat) (body : List (BitVec 8)) : ∀ (hops : List HopD) (f : List (BitVec 8)), hops ≠ [] → buildR hops.reverse none (lastP body) (fillOf hops.dropLast f) box = buildF box body hops f
 | [], _, h => absurd rfl h
 | [h], f, _ => by
  show (wrapOf h (lastP body) (slotOf h none (lastP body) box) f).bind some = wrapOf h (lastP body) (slotOf h none (lastP body) box) f
  cases wrapOf h (lastP body) (slotOf h none (lastP body) box) f <;> rfl
 | h :: n :: rest, f, _ => by
  rw [List.reverse_cons, buildR_append]
  show Option.bind (buildR (n :: rest).reverse none (lastP body) (fillOf (n :: rest).dropLast (fillStep f h)) box) _ = _
  rw [buildR_F box body (n :: rest) _ (by simp)]
  show _ = (buildF box body (n :: rest) (fillStep f h)).bind _
  congr 1
  funext q
  rw [List.getLast?_reverse]
  rfl
theorem buildOf_F {hops : List HopD} {box : Nat} {body : List (BitVec 8)} (h1 : 1 ≤ hops.length) (h5 : hops.length ≤ 5) : buildOf hops box body = buildF box body hops [] := by
 unfold buildOf
 rw [if_neg (by omega)]
 exact buildR_F box body hops [] (by intro h; rw [h] at h1; simp at h1)
theorem buildF_none (box : Nat) (body : List (BitVec 8)) : ∀ (hops : List HopD) (f : List (BitVec 8)), hops ≠ [] → ((buildF box body hops f).isSome = true ↔ ∀ h ∈ hops, h.lo ≤ h.hi)
 | [], _, h => absurd rfl h
 | [h], f, _ => by
  unfold buildF wrapOf
  rw [slotOf_right_iff]
  by_cases hl : h.lo ≤ h.hi <;> simp [hl]
 | h :: n :: rest, f, _ => by
  have ih := buildF_none box body (n :: rest) (fillStep f h) (by simp)
  show ((buildF box body (n :: rest) (fillStep f h)).bind _).isSome = true ↔ _
  cases hb : buildF box body (n :: rest) (fillStep f h) with
  | none =>
   rw [hb] at ih
   simp only [Option.bind_none, Option.isSome_none, Bool.false_eq_true, false_iff]
   intro hall
   exact absurd (ih.2 fun x hx => hall x (List.mem_cons_of_mem _ hx)) (by simp)
  | some q =>
   rw [hb] at ih
   have ih := ih.1 rfl
   show (wrapOf h q (slotOf h (some n) q box) []).isSome = true ↔ _
   unfold wrapOf
   rw [slotOf_right_iff]
   by_cases hl : h.lo ≤ h.hi
   · simp only [hl, decide_true, if_true, Option.isSome_some, true_iff]
     intro x hx
     rcases List.mem_cons.1 hx with rfl | hx
     · exact hl
     · exact ih x hx
   · simp only [hl, decide_false, Bool.false_eq_true, if_false, Option.isSome_none, false_iff]
     intro hall
     exact hl (hall h List.mem_cons_self)
theorem lastP_ok {body : List (BitVec 8)} (hb : body.length = 256) : (lastP body).ok := ⟨by simp [lastP, PktD.zero], by simp [lastP, PktD.zero], zs_length _, zs_length _, zs_length _, hb⟩
theorem sOf_ok {h : HopD} {next : Option HopD} {p : PktD} {box : Nat} (o : h.ok) (on : ∀ n, next = some n → n.ok) (po : p.ok) (hb : box < 65536) : (slotOf h next p box).ok := by
 cases next with
 | none => exact ⟨by simp [slotOf], by simpa [slotOf] using hb, by simp [slotOf], by simp [slotOf], zs_length _, zs_length _, o.lo, o.hi, o.delay⟩
 | some n =>
  have on := on n rfl
  exact ⟨on.addr, by simp [slotOf], on.who, on.epoch, on.nonce, po.mac, o.lo, o.hi, o.delay⟩
theorem wOf_ok {h : HopD} {p : PktD} {s : SlotD} {e : List (BitVec 8)} {q : PktD} (o : h.ok) (po : p.ok) (so : s.ok) (he : e.length ≤ 320) (hq : wrapOf h p s e = some q) : q.ok := by
 unfold wrapOf at hq
 split at hq
 · cases hq
   refine ⟨o.who, o.epoch, o.nonce, sumOf_length _ _, ?_, ?_⟩
   · show (_ ++ e).length = 320
     rw [List.length_append, List.length_take, xorB_length, List.length_append, SlotD.bytes_length so.nonce so.mac, List.length_take, po.head, headsOf_length (show h.keys.ok from keysOf_ok _ _ _)]
     omega
   · show (xorB _ _).length = 256
     rw [xorB_length, po.body, bodiesOf_length (show h.keys.ok from keysOf_ok _ _ _)]
     rfl
 · cases hq
theorem fillStep_length {f : List (BitVec 8)} {h : HopD} (hf : f.length ≤ 320) : (fillStep f h).length = f.length + 64 := by
 unfold fillStep
 rw [xorB_length, List.length_append, zs_length, List.length_drop, headsOf_length (show h.keys.ok from keysOf_ok _ _ _)]
 omega
structure Layer (box : Nat) (body : List (BitVec 8)) (h : HopD) (rest : List HopD) (f : List (BitVec 8)) (p : PktD) : Prop where
 ok : p.ok
 tail : p.head.drop (320 - f.length) = f
 who : p.who = h.who ∧ p.epoch = h.epoch ∧ p.nonce = h.nonce
 peel : match rest with
  | [] => ∃ r, peelOf h.key p = (slotOf h none (lastP body) box, r, 0) ∧ r.body = body ∧ r.ok
  | n :: more => ∃ q, buildF box body (n :: more) (fillStep f h) = some q ∧ peelOf h.key p = (slotOf h (some n) q box, q, 0)
theorem layer_all {box : Nat} {body : List (BitVec 8)} (hbox : box < 65536) (hb : body.length = 256) : ∀ (rest : List HopD) (h : HopD) (f : List (BitVec 8)) (p : PktD), (∀ x ∈ h :: rest, x.ok) → f.length + 64 * (rest.length + 1) ≤ 320 → buildF box body (h :: rest) f = some p → Layer box body h rest f p
 | [], h, f, p, ho, hf, hp => by
  have o := ho h List.mem_cons_self
  have hlp := lastP_ok hb
  have so : (slotOf h none (lastP body) box).ok := sOf_ok o (fun n e => by cases e) hlp hbox
  simp only [List.length_nil, Nat.zero_add, Nat.mul_one] at hf
  have hp : wrapOf h (lastP body) (slotOf h none (lastP body) box) f = some p := hp
  obtain ⟨h1, h2, h3⟩ := peel_wrap o hlp so (by omega) hp
  have hk : (h.keys).ok := keysOf_ok _ _ _
  refine ⟨wOf_ok o hlp so (by omega) hp, ?_, h2, _, h1, rfl, ?_⟩
  · rw [h3]
    refine List.drop_left' ?_
    rw [List.length_take, xorB_length, List.length_append, SlotD.bytes_length so.nonce so.mac, List.length_take, hlp.head, headsOf_length hk]
    omega
  · refine ⟨so.who, so.epoch, so.nonce, so.mac, ?_, hb⟩
    show ((xorB (p.head ++ zs 64) (headsOf h.keys)).drop 64).length = 320
    rw [List.length_drop, xorB_length, List.length_append, (wOf_ok o hlp so (by omega) hp).head, zs_length, headsOf_length hk]
    rfl
 | n :: more, h, f, p, ho, hf, hp => by
  have o := ho h List.mem_cons_self
  have on := ho n (List.mem_cons_of_mem _ List.mem_cons_self)
  have hp : (buildF box body (n :: more) (fillStep f h)).bind (fun q => wrapOf h q (slotOf h (some n) q box) []) = some p := hp
  simp only [List.length_cons] at hf
  have hfl := fillStep_length (f := f) (h := h) (by omega)
  cases hq : buildF box body (n :: more) (fillStep f h) with
  | none => rw [hq] at hp; cases hp
  | some q =>
   rw [hq] at hp
   have hp : wrapOf h q (slotOf h (some n) q box) [] = some p := hp
   have L := layer_all hbox hb more n (fillStep f h) q (fun x hx => ho x (List.mem_cons_of_mem _ hx)) (by rw [hfl]; omega) hq
   have so : (slotOf h (some n) q box).ok := sOf_ok o (fun m e => by cases e; exact on) L.ok hbox
   obtain ⟨h1, h2, h3⟩ := peel_wrap o L.ok so (by simp) hp
   have hk : (h.keys).ok := keysOf_ok _ _ _
   have hH := headsOf_length hk
   have hsb := SlotD.bytes_length so.nonce so.mac
   have hqh := L.ok.head
   have htail := L.tail
   rw [hfl] at htail
   obtain ⟨S, hS⟩ : ∃ S, S = (slotOf h (some n) q box).bytes := ⟨_, rfl⟩
   obtain ⟨HH, hHH⟩ : ∃ H, H = headsOf h.keys := ⟨_, rfl⟩
   have hfs : fillStep f h = xorB (f ++ zs 64) (HH.drop (320 - f.length)) := by
    unfold fillStep
    rw [hHH, show 384 - (f.length + 64) = 320 - f.length by omega]
   rw [← hS] at h3 hsb
   rw [← hHH] at h3 hH h1
   rw [hfs] at htail
   have hQ : (q.head.take 256).length = 256 := by rw [List.length_take, hqh]; rfl
   have h3' : p.head = xorB (S ++ q.head.take 256) HH := by
    rw [h3, List.append_nil]
    exact List.take_of_length_le (by rw [xorB_length, List.length_append, hsb, hQ, hH]; simp)
   have hdl : (HH.drop (320 - f.length)).length = f.length + 64 := by rw [List.length_drop, hH]; omega
   refine ⟨wOf_ok o L.ok so (by simp) hp, ?_, h2, q, hq, ?_⟩
   · rw [h3', xorB_drop, List.drop_append, hsb, List.drop_eq_nil_of_le (by rw [hsb]; omega), List.nil_append]
     have e1 : (q.head.take 256).drop (320 - f.length - 64) = (q.head.drop (320 - (f.length + 64))).take f.length := by
      rw [List.drop_take, show 320 - f.length - 64 = 320 - (f.length + 64) by omega, show 256 - (320 - (f.length + 64)) = f.length by omega]
     rw [e1, htail, xorB_take, List.take_left' rfl, ← xorB_left rfl]
     exact xorB_self _ (by rw [hdl]; omega)
   · have hin : (xorB (p.head ++ zs 64) HH).drop 64 = q.head := by
       rw [xorB_drop, List.drop_append_of_le_length (by rw [h3', xorB_length, List.length_append, hsb, hQ, hH]; simp), h3', xorB_drop, List.drop_left' hsb, xorB_append]
       have e2 : (xorB (q.head.take 256) (HH.drop 64)).length = 256 := by rw [xorB_length, hQ, List.length_drop, hH]; rfl
       rw [e2, xorB_self _ (by rw [hQ, List.length_drop, hH]; omega), List.drop_drop]
       have e3 : xorB (zs 64) (HH.drop (64 + 256)) = HH.drop 320 := xorB_zs _ (by rw [List.length_drop, hH])
       rw [e3]
       have e4 : q.head.drop 256 = HH.drop 320 := by
        have e5 : q.head.drop 256 = (q.head.drop (320 - (f.length + 64))).drop f.length := by
         rw [List.drop_drop, show 320 - (f.length + 64) + f.length = 256 by omega]
        rw [e5, htail, xorB_drop, List.drop_left' rfl, List.drop_drop]
        have e6 : 320 - f.length + f.length = 320 := by omega
        rw [e6]
        exact xorB_zs _ (by rw [List.length_drop, hH])
       rw [← e4, List.take_append_drop]
     rw [h1, hin]
     obtain ⟨w1, w2, w3⟩ := L.who
     refine Prod.ext rfl (Prod.ext ?_ rfl)
     show innerOf (slotOf h (some n) q box) q.head q.body = q
     show PktD.mk n.who n.epoch n.nonce q.mac q.head q.body = q
     rw [← w1, ← w2, ← w3]
end Go.Hg
namespace Go.Hg
open Go.ChangeShapes Go.WideShapes Go.ChangeAt Go.RowKit
theorem nat_of_wf {k : IntKind} {z : Int} {N : Nat} (h : (Lit.int k z).wf = true) (h0 : k.min = 0) (h1 : k.max = (N : Int) - 1) : ∃ n : Nat, n < N ∧ z = (n : Int) := by
 simp [Lit.wf, h0, h1] at h
 exact ⟨z.toNat, by omega, by omega⟩
section
variable {H : Type} {enc : TypeId × Value → H} {P : Program} {w : World} {base : Nat} {sp : Nat → Bool} {held : Bool} {t : TypeId} {v : Value} {d : DataW H} {ps : List MemPlace}
theorem map_pick {α β : Type} {R : α → β → Prop} : ∀ (n : Nat) (f : Nat → α), (∀ i, i < n → ∃ b, R (f i) b) → ∃ bs : List β, bs.length = n ∧ ∀ i b, bs[i]? = some b → R (f i) b
 | 0, _, _ => ⟨[], rfl, fun i b h => by simp at h⟩
 | n + 1, f, h => by
  obtain ⟨b0, h0⟩ := h 0 (by omega)
  obtain ⟨bs, hl, hb⟩ := map_pick n (fun i => f (i + 1)) fun i hi => h (i + 1) (by omega)
  refine ⟨b0 :: bs, by simp [hl], fun i b hi => ?_⟩
  cases i with
  | zero => cases hi; exact h0
  | succ i => exact hb i b hi
end
end Go.Hg
namespace Go.Hg
open Go.RowKit
def keyA : List (BitVec 8) := 1 :: zs 31
def keyB : List (BitVec 8) := 2 :: zs 31
def hopA : HopD := ⟨1, 7, keyA, 0, 3 :: zs 15, 0, 9, 4⟩
def hopB : HopD := ⟨2, 8, keyB, 0, 4 :: zs 15, 5, 6, 0⟩
def bodyA : List (BitVec 8) := [1, 2, 3] ++ zs 253
theorem peel_ok {key : List (BitVec 8)} {p q : PktD} {s : SlotD} {e : Nat} (po : p.ok) (h : peelOf key p = (s, q, e)) : s.ok ∧ q.ok := by
 unfold peelOf at h
 split at h
 · cases h
   exact ⟨SlotD.zero_ok, PktD.zero_ok⟩
 · split at h
   · cases h
     exact ⟨SlotD.zero_ok, PktD.zero_ok⟩
   · rename_i s' hd
     cases h
     have hol := openOf_length key po.head
     have so := (SlotD.dec_some (by rw [List.length_take, hol]; rfl) hd).2.1
     refine ⟨so, so.who, so.epoch, so.nonce, so.mac, by rw [List.length_drop, hol], ?_⟩
     rw [xorB_length, po.body, bodiesOf_length (keysOf_ok _ _ _)]
     rfl
structure Shown (p : PktD) (s : SlotD) (q : PktD) (t : SlotD) (r : PktD) : Prop where
 bld : buildOf [hopA, hopB] 77 bodyA = some p
 po : p.ok
 one : peelOf keyA p = (s, q, 0)
 so : s.ok
 qo : q.ok
 last : s.last = false
 next : s.next = 2
 delay : s.delay = 4
 hi : s.hi = 9
 two : peelOf keyB q = (t, r, 0)
 t_ok : t.ok
 ro : r.ok
 tlast : t.last = true
 box : t.box = 77
 lo : t.lo = 5
 body : r.body = bodyA
 bad : ∀ m, m ≠ p.mac → peelOf keyA { p with mac := m } = (SlotD.zero, PktD.zero, 4)
end Go.Hg
namespace Go.Hg
open Go.RowKit
structure BkInv (box : Nat) (body : List (BitVec 8)) (L : List HopO) (c : Nat) (p : PktD) : Prop where
 more : c < L.length → ∃ f, f.length + 64 * (L.length - c) ≤ 320 ∧ buildF box body ((L.drop c).map (·.1)) f = some p
 last : c = L.length → p.body = body
 ok : p.ok
structure BkStep (box : Nat) (body : List (BitVec 8)) (L : List HopO) (c : Nat) (h : HopD) (p : PktD) (s : SlotD) (q : PktD) : Prop where
 peel : peelOf h.key p = (s, q, 0)
 who : p.who = h.who
 epoch : p.epoch = h.epoch
 nonce : p.nonce = h.nonce
 lo : s.lo = h.lo
 hi : s.hi = h.hi
 delay : s.delay = h.delay
 inv : BkInv box body L (c + 1) q
 kind : (c + 1 = L.length ∧ s.last = true ∧ s.box = box) ∨ (∃ n : HopO, L[c + 1]? = some n ∧ s.last = false ∧ s.next = n.1.addr ∧ s.mac = q.mac)
theorem drop_some {α : Type} {L : List α} {c : Nat} {h : α} (hc : L[c]? = some h) : L.drop c = h :: L.drop (c + 1) := by
 obtain ⟨hl, rfl⟩ := List.getElem?_eq_some_iff.1 hc
 exact List.drop_eq_getElem_cons hl
theorem back_step {box : Nat} {body : List (BitVec 8)} {L : List HopO} {c : Nat} {h : HopO} {p : PktD} (hbox : box < 65536) (hb : body.length = 256) (hc : L[c]? = some h) (I : BkInv box body L c p) : ∃ s q, BkStep box body L c h.1 p s q := by
 have hl := (List.getElem?_eq_some_iff.1 hc).1
 obtain ⟨f, hf, hp⟩ := I.more hl
 rw [drop_some hc, List.map_cons] at hp
 have hall : ∀ x ∈ h.1 :: (L.drop (c + 1)).map (·.1), x.ok := fun x hx => by
  rcases List.mem_cons.1 hx with rfl | hx
  · exact h.2
  · obtain ⟨z, _, rfl⟩ := List.mem_map.1 hx
    exact z.2
 have Y := layer_all hbox hb _ h.1 f p hall (by rw [List.length_map, List.length_drop]; omega) hp
 have hfl : (fillStep f h.1).length = f.length + 64 := fillStep_length (by omega)
 have hq := Y.peel
 cases hr : L[c + 1]? with
 | none =>
  have hn : L.length ≤ c + 1 := List.getElem?_eq_none_iff.1 hr
  rw [List.drop_of_length_le hn, List.map_nil] at hq
  obtain ⟨r, hpe, hbo, hro⟩ := hq
  exact ⟨_, r, hpe, Y.who.1, Y.who.2.1, Y.who.2.2, rfl, rfl, rfl, ⟨fun h => by omega, fun _ => hbo, hro⟩, .inl ⟨by omega, rfl, rfl⟩⟩
 | some n =>
  have hn := (List.getElem?_eq_some_iff.1 hr).1
  rw [drop_some hr, List.map_cons] at hq
  obtain ⟨q, hbq, hpe⟩ := hq
  have hqo := layer_all hbox hb _ n.1 (fillStep f h.1) q (fun x hx => by
   rcases List.mem_cons.1 hx with rfl | hx
   · exact n.2
   · obtain ⟨z, _, rfl⟩ := List.mem_map.1 hx
     exact z.2) (by rw [List.length_map, List.length_drop, hfl]; omega) hbq
  exact ⟨_, q, hpe, Y.who.1, Y.who.2.1, Y.who.2.2, rfl, rfl, rfl, ⟨fun _ => ⟨fillStep f h.1, by omega, by rw [drop_some hr, List.map_cons]; exact hbq⟩, fun h => by omega, hqo.ok⟩, .inr ⟨n, hr, rfl, rfl, rfl⟩⟩
theorem back_start {box : Nat} {body : List (BitVec 8)} {L : List HopO} (hbox : box < 65536) (hb : body.length = 256) (h1 : 1 ≤ L.length) (h5 : L.length ≤ 5) (hle : ∀ x ∈ L, x.1.lo ≤ x.1.hi) : ∃ p, buildOf (L.map (·.1)) box body = some p ∧ BkInv box body L 0 p := by
 have e := buildOf_F (hops := L.map (·.1)) (box := box) (body := body) (by rwa [List.length_map]) (by rwa [List.length_map])
 have hne : L.map (·.1) ≠ [] := fun e => by have := congrArg List.length e; simp at this; subst this; simp at h1
 obtain ⟨p, hp⟩ := Option.isSome_iff_exists.1 ((buildF_none box body (L.map (·.1)) [] hne).2 fun x hx => by
  obtain ⟨z, hz, rfl⟩ := List.mem_map.1 hx
  exact hle z hz)
 cases L with
 | nil => simp at h1
 | cons x xs =>
  refine ⟨p, by rw [e]; exact hp, fun _ => ⟨[], by simp at h5 ⊢; omega, hp⟩, fun h => by simp at h, ?_⟩
  rw [List.map_cons] at hp
  exact (layer_all hbox hb (xs.map (·.1)) x.1 [] p (fun y hy => by
   rw [← List.map_cons (f := Subtype.val)] at hy
   obtain ⟨z, _, rfl⟩ := List.mem_map.1 hy
   exact z.2) (by simp at h5 ⊢; omega) hp).ok
end Go.Hg
