/-
  The plain law of packets in packets; arguments that are packets, hops; two hops peeled. No program in sight.
-/
import Derived.Test.YtgdphamdbpkjdaaDoorHopA
import Derived.Test.YtgdphamdbpkjdaaDoorHgA
import Derived.Lib.LaidTab
import Derived.Test.YtgdphamdbpkjdaaDoorHgC
namespace Go.Hg
open Go.RowKit
set_option linter.unusedVariables false
theorem xorB_nil (b : List (BitVec 8)) : xorB [] b = [] := by simp [xorB]
theorem xorB_take (a b : List (BitVec 8)) (n : Nat) : (xorB a b).take n = xorB (a.take n) (b.take n) := by
  unfold xorB
  rw [List.take_zipWith]
theorem xorB_drop (a b : List (BitVec 8)) (n : Nat) : (xorB a b).drop n = xorB (a.drop n) (b.drop n) := by
  unfold xorB
  rw [List.drop_zipWith]
theorem xorB_append {a c : List (BitVec 8)} (b : List (BitVec 8)) : xorB (a ++ c) b = xorB a b ++ xorB c (b.drop a.length) := by
  induction a generalizing b with
  | nil => simp [xorB]
  | cons x a ih =>
    cases b with
    | nil => simp [xorB]
    | cons y b =>
      have := ih b
      unfold xorB at this ⊢
      simp [this]
theorem xorB_self {a : List (BitVec 8)} (b : List (BitVec 8)) (h : a.length ≤ b.length) : xorB (xorB a b) b = a := by
  induction a generalizing b with
  | nil => simp [xorB]
  | cons x a ih =>
    cases b with
    | nil => simp at h
    | cons y b =>
      have := ih b (by simpa using h)
      unfold xorB at this ⊢
      simp [this, BitVec.xor_assoc]
theorem xorB_zs (b : List (BitVec 8)) {n : Nat} (h : b.length = n) : xorB (zs n) b = b := by
  subst h
  induction b with
  | nil => rfl
  | cons y b ih =>
    have ih' : xorB (List.replicate b.length 0) b = b := ih
    unfold zs
    rw [List.length_cons, List.replicate_succ]
    unfold xorB at ih' ⊢
    rw [List.zipWith_cons_cons, ih']
    simp
theorem xorB_left {a b : List (BitVec 8)} {n : Nat} (ha : a.length = n) : xorB a b = xorB a (b.take n) := by
  subst ha
  induction a generalizing b with
  | nil => simp [xorB]
  | cons x a ih =>
    cases b with
    | nil => simp [xorB]
    | cons y b =>
      have := ih (b := b)
      unfold xorB at this ⊢
      simp only [List.zipWith_cons_cons, List.length_cons, List.take_succ_cons, List.cons.injEq, true_and]
      exact this
/-! ### A layer, and behind it what was in it -/
/-- The packet that comes out. -/
def innerOf (s : SlotD) (hd body : List (BitVec 8)) : PktD := ⟨s.who, s.epoch, s.nonce, s.mac, hd, body⟩
theorem slotOf_right {h : HopD} {next : Option HopD} {p : PktD} {box : Nat} (hl : h.lo ≤ h.hi) : (slotOf h next p box).right = true := by
  unfold SlotD.right
  cases next <;> simp [slotOf, SlotD.only, hl]
theorem right_lo {s : SlotD} (h : s.right = true) : s.lo ≤ s.hi := (of_decide_eq_true h).1
theorem slotOf_lo {h : HopD} {next : Option HopD} {p : PktD} {box : Nat} : (slotOf h next p box).lo = h.lo ∧ (slotOf h next p box).hi = h.hi := by cases next <;> exact ⟨rfl, rfl⟩
theorem slotOf_right_iff {h : HopD} {next : Option HopD} {p : PktD} {box : Nat} : (slotOf h next p box).right = decide (h.lo ≤ h.hi) := by
  by_cases hl : h.lo ≤ h.hi
  · rw [slotOf_right hl]; simp [hl]
  · cases hr : (slotOf h next p box).right with
    | false => simp [hl]
    | true =>
      have := right_lo hr
      rw [slotOf_lo.1, slotOf_lo.2] at this
      exact absurd this hl
theorem peel_wrap {h : HopD} {p q : PktD} {s : SlotD} {e : List (BitVec 8)} (o : h.ok) (po : p.ok) (so : s.ok) (he : e.length ≤ 256) (hw : wrapOf h p s e = some q) :
    peelOf h.key q = (s, innerOf s ((xorB (q.head ++ zs 64) (headsOf h.keys)).drop 64) p.body, 0) ∧ (q.who = h.who ∧ q.epoch = h.epoch ∧ q.nonce = h.nonce) ∧
    q.head = (xorB (s.bytes ++ p.head.take 256) (headsOf h.keys)).take (320 - e.length) ++ e := by
  unfold wrapOf at hw
  split at hw
  · rename_i hr
    have hw := Option.some.inj hw
    have hk : (h.keys).ok := keysOf_ok _ _ _
    have hbl : s.bytes.length = 64 := SlotD.bytes_length so.nonce so.mac
    have hhl := headsOf_length hk
    subst hw
    refine ⟨?_, ⟨rfl, rfl, rfl⟩, rfl⟩
    unfold peelOf
    have hm : macOf h.key { { who := h.who, epoch := h.epoch, nonce := h.nonce, mac := zs 16, head := (xorB (s.bytes ++ p.head.take 256) (headsOf h.keys)).take (320 - e.length) ++ e, body := xorB p.body (bodiesOf h.keys) : PktD } with mac := sumOf h.keys { who := h.who, epoch := h.epoch, nonce := h.nonce, mac := zs 16, head := (xorB (s.bytes ++ p.head.take 256) (headsOf h.keys)).take (320 - e.length) ++ e, body := xorB p.body (bodiesOf h.keys) } } = sumOf h.keys { who := h.who, epoch := h.epoch, nonce := h.nonce, mac := zs 16, head := (xorB (s.bytes ++ p.head.take 256) (headsOf h.keys)).take (320 - e.length) ++ e, body := xorB p.body (bodiesOf h.keys) } := rfl
    rw [if_neg (by rw [hm]; simp)]
    have hx : (xorB (s.bytes ++ p.head.take 256) (headsOf h.keys)).length = 320 := by rw [xorB_length, List.length_append, hbl, List.length_take, po.head, hhl]; rfl
    have ho : (openOf h.key { who := h.who, epoch := h.epoch, nonce := h.nonce, mac := sumOf h.keys { who := h.who, epoch := h.epoch, nonce := h.nonce, mac := zs 16, head := (xorB (s.bytes ++ p.head.take 256) (headsOf h.keys)).take (320 - e.length) ++ e, body := xorB p.body (bodiesOf h.keys) }, head := (xorB (s.bytes ++ p.head.take 256) (headsOf h.keys)).take (320 - e.length) ++ e, body := xorB p.body (bodiesOf h.keys) }).take 64 = s.bytes := by
      show (xorB (((xorB (s.bytes ++ p.head.take 256) (headsOf h.keys)).take (320 - e.length) ++ e) ++ zs 64) (headsOf h.keys)).take 64 = s.bytes
      rw [xorB_take, List.append_assoc, List.take_append_of_le_length (by rw [List.length_take, hx]; omega), List.take_take, Nat.min_eq_left (by omega), xorB_take, List.take_append_of_le_length (by omega), List.take_of_length_le (by omega)]
      exact xorB_self _ (by rw [List.length_take, hhl, hbl]; omega)
    simp only [ho, SlotD.dec_bytes so hr]
    refine Prod.ext rfl (Prod.ext ?_ rfl)
    unfold innerOf
    simp only [PktD.mk.injEq, true_and]
    refine ⟨rfl, ?_⟩
    exact xorB_self _ (by rw [po.body, bodiesOf_length hk]; omega)
  · cases hw
/-! ### From the first hop on -/
def fillStep (f : List (BitVec 8)) (h : HopD) : List (BitVec 8) := xorB (f ++ zs 64) ((headsOf h.keys).drop (384 - (f.length + 64)))
/-- What the last hop gets. -/
def lastP (body : List (BitVec 8)) : PktD := { PktD.zero with body := body }
def buildF (box : Nat) (body : List (BitVec 8)) : List HopD → List (BitVec 8) → Option PktD
  | [], _ => none
  | [h], f => wrapOf h (lastP body) (slotOf h none (lastP body) box) f
  | h :: n :: rest, f => (buildF box body (n :: rest) (fillStep f h)).bind fun q => wrapOf h q (slotOf h (some n) q box) []
theorem buildR_append (h : HopD) (box : Nat) : ∀ (xs : List HopD) (next : Option HopD) (p : PktD) (e : List (BitVec 8)),
    buildR (xs ++ [h]) next p e box = (buildR xs next p e box).bind fun q => match xs.getLast? with
      | none => wrapOf h q (slotOf h next q box) e
      | some n => wrapOf h q (slotOf h (some n) q box) []
  | [], next, p, e => by
    show (wrapOf h p (slotOf h next p box) e).bind some = wrapOf h p (slotOf h next p box) e
    cases wrapOf h p (slotOf h next p box) e <;> rfl
  | x :: xs, next, p, e => by
    show (wrapOf x p (slotOf x next p box) e).bind (fun q => buildR (xs ++ [h]) (some x) q [] box) = ((wrapOf x p (slotOf x next p box) e).bind fun q => buildR xs (some x) q [] box).bind _
    rw [Option.bind_assoc]
    congr 1
    funext q
    rw [buildR_append h box xs]
    congr 1
    funext r
    cases hx : xs.getLast? with
    | none =>
      have : xs = [] := List.getLast?_eq_none_iff.1 hx
      subst this
      rfl
    | some n =>
      have : (x :: xs).getLast? = some n := by
        rw [List.getLast?_cons, hx]
        rfl
      rw [this]
theorem buildR_F (box : Nat) (body : List (BitVec 8)) : ∀ (hops : List HopD) (f : List (BitVec 8)), hops ≠ [] → buildR hops.reverse none (lastP body) (fillOf hops.dropLast f) box = buildF box body hops f
  | [], _, h => absurd rfl h
  | [h], f, _ => by
    show (wrapOf h (lastP body) (slotOf h none (lastP body) box) f).bind some = wrapOf h (lastP body) (slotOf h none (lastP body) box) f
    cases wrapOf h (lastP body) (slotOf h none (lastP body) box) f <;> rfl
  | h :: n :: rest, f, _ => by
    rw [List.reverse_cons, buildR_append]
    show Option.bind (buildR (n :: rest).reverse none (lastP body) (fillOf (n :: rest).dropLast (fillStep f h)) box) _ = _
    rw [buildR_F box body (n :: rest) _ (by simp)]
    show _ = (buildF box body (n :: rest) (fillStep f h)).bind _
    congr 1
    funext q
    rw [List.getLast?_reverse]
    rfl
theorem buildOf_F {hops : List HopD} {box : Nat} {body : List (BitVec 8)} (h1 : 1 ≤ hops.length) (h5 : hops.length ≤ 5) : buildOf hops box body = buildF box body hops [] := by
  unfold buildOf
  rw [if_neg (by omega)]
  exact buildR_F box body hops [] (by intro h; rw [h] at h1; simp at h1)
/-- It is built just if the windows may be. -/
theorem buildF_none (box : Nat) (body : List (BitVec 8)) : ∀ (hops : List HopD) (f : List (BitVec 8)), hops ≠ [] → ((buildF box body hops f).isSome = true ↔ ∀ h ∈ hops, h.lo ≤ h.hi)
  | [], _, h => absurd rfl h
  | [h], f, _ => by
    unfold buildF wrapOf
    rw [slotOf_right_iff]
    by_cases hl : h.lo ≤ h.hi <;> simp [hl]
  | h :: n :: rest, f, _ => by
    have ih := buildF_none box body (n :: rest) (fillStep f h) (by simp)
    show ((buildF box body (n :: rest) (fillStep f h)).bind _).isSome = true ↔ _
    cases hb : buildF box body (n :: rest) (fillStep f h) with
    | none =>
      rw [hb] at ih
      simp only [Option.bind_none, Option.isSome_none, Bool.false_eq_true, false_iff]
      intro hall
      exact absurd (ih.2 fun x hx => hall x (List.mem_cons_of_mem _ hx)) (by simp)
    | some q =>
      rw [hb] at ih
      have ih := ih.1 rfl
      show (wrapOf h q (slotOf h (some n) q box) []).isSome = true ↔ _
      unfold wrapOf
      rw [slotOf_right_iff]
      by_cases hl : h.lo ≤ h.hi
      · simp only [hl, decide_true, if_true, Option.isSome_some, true_iff]
        intro x hx
        rcases List.mem_cons.1 hx with rfl | hx
        · exact hl
        · exact ih x hx
      · simp only [hl, decide_false, Bool.false_eq_true, if_false, Option.isSome_none, false_iff]
        intro hall
        exact hl (hall h List.mem_cons_self)
theorem lastP_ok {body : List (BitVec 8)} (hb : body.length = 256) : (lastP body).ok := ⟨by simp [lastP, PktD.zero], by simp [lastP, PktD.zero], zs_length _, zs_length _, zs_length _, hb⟩
theorem sOf_ok {h : HopD} {next : Option HopD} {p : PktD} {box : Nat} (o : h.ok) (on : ∀ n, next = some n → n.ok) (po : p.ok) (hb : box < 65536) : (slotOf h next p box).ok := by
  cases next with
  | none => exact ⟨by simp [slotOf], by simpa [slotOf] using hb, by simp [slotOf], by simp [slotOf], zs_length _, zs_length _, o.lo, o.hi, o.delay⟩
  | some n =>
    have on := on n rfl
    exact ⟨on.addr, by simp [slotOf], on.who, on.epoch, on.nonce, po.mac, o.lo, o.hi, o.delay⟩
theorem wOf_ok {h : HopD} {p : PktD} {s : SlotD} {e : List (BitVec 8)} {q : PktD} (o : h.ok) (po : p.ok) (so : s.ok) (he : e.length ≤ 320) (hq : wrapOf h p s e = some q) : q.ok := by
  unfold wrapOf at hq
  split at hq
  · cases hq
    refine ⟨o.who, o.epoch, o.nonce, sumOf_length _ _, ?_, ?_⟩
    · show (_ ++ e).length = 320
      rw [List.length_append, List.length_take, xorB_length, List.length_append, SlotD.bytes_length so.nonce so.mac, List.length_take, po.head, headsOf_length (show h.keys.ok from keysOf_ok _ _ _)]
      omega
    · show (xorB _ _).length = 256
      rw [xorB_length, po.body, bodiesOf_length (show h.keys.ok from keysOf_ok _ _ _)]
      rfl
  · cases hq
theorem fillStep_length {f : List (BitVec 8)} {h : HopD} (hf : f.length ≤ 320) : (fillStep f h).length = f.length + 64 := by
  unfold fillStep
  rw [xorB_length, List.length_append, zs_length, List.length_drop, headsOf_length (show h.keys.ok from keysOf_ok _ _ _)]
  omega
/-- One layer of a built packet: what its peeling gives. -/
structure Layer (box : Nat) (body : List (BitVec 8)) (h : HopD) (rest : List HopD) (f : List (BitVec 8)) (p : PktD) : Prop where
  ok : p.ok
  tail : p.head.drop (320 - f.length) = f
  who : p.who = h.who ∧ p.epoch = h.epoch ∧ p.nonce = h.nonce
  peel : match rest with
    | [] => ∃ r, peelOf h.key p = (slotOf h none (lastP body) box, r, 0) ∧ r.body = body ∧ r.ok
    | n :: more => ∃ q, buildF box body (n :: more) (fillStep f h) = some q ∧ peelOf h.key p = (slotOf h (some n) q box, q, 0)
theorem layer_all {box : Nat} {body : List (BitVec 8)} (hbox : box < 65536) (hb : body.length = 256) : ∀ (rest : List HopD) (h : HopD) (f : List (BitVec 8)) (p : PktD), (∀ x ∈ h :: rest, x.ok) → f.length + 64 * (rest.length + 1) ≤ 320 → buildF box body (h :: rest) f = some p → Layer box body h rest f p
  | [], h, f, p, ho, hf, hp => by
    have o := ho h List.mem_cons_self
    have hlp := lastP_ok hb
    have so : (slotOf h none (lastP body) box).ok := sOf_ok o (fun n e => by cases e) hlp hbox
    simp only [List.length_nil, Nat.zero_add, Nat.mul_one] at hf
    have hp : wrapOf h (lastP body) (slotOf h none (lastP body) box) f = some p := hp
    obtain ⟨h1, h2, h3⟩ := peel_wrap o hlp so (by omega) hp
    have hk : (h.keys).ok := keysOf_ok _ _ _
    refine ⟨wOf_ok o hlp so (by omega) hp, ?_, h2, _, h1, rfl, ?_⟩
    · rw [h3]
      refine List.drop_left' ?_
      rw [List.length_take, xorB_length, List.length_append, SlotD.bytes_length so.nonce so.mac, List.length_take, hlp.head, headsOf_length hk]
      omega
    · refine ⟨so.who, so.epoch, so.nonce, so.mac, ?_, hb⟩
      show ((xorB (p.head ++ zs 64) (headsOf h.keys)).drop 64).length = 320
      rw [List.length_drop, xorB_length, List.length_append, (wOf_ok o hlp so (by omega) hp).head, zs_length, headsOf_length hk]
      rfl
  | n :: more, h, f, p, ho, hf, hp => by
    have o := ho h List.mem_cons_self
    have on := ho n (List.mem_cons_of_mem _ List.mem_cons_self)
    have hp : (buildF box body (n :: more) (fillStep f h)).bind (fun q => wrapOf h q (slotOf h (some n) q box) []) = some p := hp
    simp only [List.length_cons] at hf
    have hfl := fillStep_length (f := f) (h := h) (by omega)
    cases hq : buildF box body (n :: more) (fillStep f h) with
    | none => rw [hq] at hp; cases hp
    | some q =>
      rw [hq] at hp
      have hp : wrapOf h q (slotOf h (some n) q box) [] = some p := hp
      have L := layer_all hbox hb more n (fillStep f h) q (fun x hx => ho x (List.mem_cons_of_mem _ hx)) (by rw [hfl]; omega) hq
      have so : (slotOf h (some n) q box).ok := sOf_ok o (fun m e => by cases e; exact on) L.ok hbox
      obtain ⟨h1, h2, h3⟩ := peel_wrap o L.ok so (by simp) hp
      have hk : (h.keys).ok := keysOf_ok _ _ _
      have hH := headsOf_length hk
      have hsb := SlotD.bytes_length so.nonce so.mac
      have hqh := L.ok.head
      have htail := L.tail
      rw [hfl] at htail
      obtain ⟨S, hS⟩ : ∃ S, S = (slotOf h (some n) q box).bytes := ⟨_, rfl⟩
      obtain ⟨HH, hHH⟩ : ∃ H, H = headsOf h.keys := ⟨_, rfl⟩
      have hfs : fillStep f h = xorB (f ++ zs 64) (HH.drop (320 - f.length)) := by
        unfold fillStep
        rw [hHH, show 384 - (f.length + 64) = 320 - f.length by omega]
      rw [← hS] at h3 hsb
      rw [← hHH] at h3 hH h1
      rw [hfs] at htail
      have hQ : (q.head.take 256).length = 256 := by rw [List.length_take, hqh]; rfl
      have h3' : p.head = xorB (S ++ q.head.take 256) HH := by
        rw [h3, List.append_nil]
        exact List.take_of_length_le (by rw [xorB_length, List.length_append, hsb, hQ, hH]; simp)
      have hdl : (HH.drop (320 - f.length)).length = f.length + 64 := by rw [List.length_drop, hH]; omega
      refine ⟨wOf_ok o L.ok so (by simp) hp, ?_, h2, q, hq, ?_⟩
      · rw [h3', xorB_drop, List.drop_append, hsb, List.drop_eq_nil_of_le (by rw [hsb]; omega), List.nil_append]
        have e1 : (q.head.take 256).drop (320 - f.length - 64) = (q.head.drop (320 - (f.length + 64))).take f.length := by
          rw [List.drop_take, show 320 - f.length - 64 = 320 - (f.length + 64) by omega, show 256 - (320 - (f.length + 64)) = f.length by omega]
        rw [e1, htail, xorB_take, List.take_left' rfl, ← xorB_left rfl]
        exact xorB_self _ (by rw [hdl]; omega)
      · have hin : (xorB (p.head ++ zs 64) HH).drop 64 = q.head := by
          rw [xorB_drop, List.drop_append_of_le_length (by rw [h3', xorB_length, List.length_append, hsb, hQ, hH]; simp), h3', xorB_drop, List.drop_left' hsb, xorB_append]
          have e2 : (xorB (q.head.take 256) (HH.drop 64)).length = 256 := by rw [xorB_length, hQ, List.length_drop, hH]; rfl
          rw [e2, xorB_self _ (by rw [hQ, List.length_drop, hH]; omega), List.drop_drop]
          have e3 : xorB (zs 64) (HH.drop (64 + 256)) = HH.drop 320 := xorB_zs _ (by rw [List.length_drop, hH])
          rw [e3]
          have e4 : q.head.drop 256 = HH.drop 320 := by
            have e5 : q.head.drop 256 = (q.head.drop (320 - (f.length + 64))).drop f.length := by
              rw [List.drop_drop, show 320 - (f.length + 64) + f.length = 256 by omega]
            rw [e5, htail, xorB_drop, List.drop_left' rfl, List.drop_drop]
            have e6 : 320 - f.length + f.length = 320 := by omega
            rw [e6]
            exact xorB_zs _ (by rw [List.length_drop, hH])
          rw [← e4, List.take_append_drop]
        rw [h1, hin]
        obtain ⟨w1, w2, w3⟩ := L.who
        refine Prod.ext rfl (Prod.ext ?_ rfl)
        show innerOf (slotOf h (some n) q box) q.head q.body = q
        show PktD.mk n.who n.epoch n.nonce q.mac q.head q.body = q
        rw [← w1, ← w2, ← w3]
end Go.Hg
namespace Go.Hg
open Go.ChangeShapes Go.WideShapes Go.ChangeAt Go.RowKit
set_option linter.unusedVariables false
theorem fits_parts {ks : List LK} {m : Nat} : ∀ (n : Nat) (cs : List Value), cs.length = n * m → (∀ i, i < n → fits ks ((cs.drop (i * m)).take m)) → fits (List.replicate n ks).flatten cs
  | 0, cs, h, _ => by
    have : cs = [] := List.eq_nil_of_length_eq_zero (by simpa using h)
    subst this
    simp [fits]
  | n + 1, cs, h, hp => by
    rw [Nat.add_mul, Nat.one_mul] at h
    have h0 := hp 0 (by omega)
    rw [Nat.zero_mul, List.drop_zero] at h0
    have ih := fits_parts (ks := ks) (m := m) n (cs.drop m) (by rw [List.length_drop]; omega) fun i hi => by
      have := hp (i + 1) (by omega)
      rw [Nat.add_mul, Nat.one_mul, Nat.add_comm] at this
      rw [List.drop_drop]
      exact this
    have := fits_append h0 ih
    rw [List.take_append_drop] at this
    rw [List.replicate_succ, List.flatten_cons]
    exact this
theorem fits_fields {P : Program} {g : TypeId → Option (List LK)} {cs : List Value} : ∀ (fs : List Field) (off : Nat) (ks : List LK), flatFs P g off fs = some ks → (∀ f ∈ fs, ∀ kf, g f.type = some kf → fits kf ((cs.drop f.offset).take (P.cellsOf f.type))) → cs.length = off + ks.length → fits ks (cs.drop off)
  | [], off, ks, h, _, hl => by
    unfold flatFs at h
    cases h
    have : cs.drop off = [] := List.drop_eq_nil_of_le (by simpa using Nat.le_of_eq hl)
    rw [this]
    simp [fits]
  | f :: fs, off, ks, h, hp, hl => by
    unfold flatFs at h
    split at h
    · rename_i hc
      obtain ⟨_, hoff⟩ := hc
      cases hg : g f.type with
      | none => rw [hg] at h; cases h
      | some kf =>
        rw [hg] at h
        simp only [Option.bind_some] at h
        split at h
        · rename_i hcl
          obtain ⟨kr, hr, rfl⟩ := Option.map_eq_some_iff.1 h
          have h1 := hp f List.mem_cons_self kf hg
          rw [hoff, hcl] at h1
          have ih := fits_fields fs (off + kf.length) kr hr (fun f' hf' => hp f' (List.mem_cons_of_mem _ hf')) (by rw [hl, List.length_append]; omega)
          rw [← List.drop_drop] at ih
          have := fits_append h1 ih
          rwa [List.take_append_drop] at this
        · cases h
    · cases h
theorem fits_of_trod {H : Type} {enc : TypeId × Value → H} {P : Program} {w : World} {base : Nat} {sp : Nat → Bool} {held : Bool} : ∀ (d : Nat) (t : TypeId) (ks : List LK) (cs : List Value) (fuel : Nat) (x : DataW H × List MemPlace), flatK P d t = some ks → DataW.trod enc P w base sp held fuel t cs = some x → fits ks cs
  | 0, _, _, _, _, _, h, _ => by cases h
  | d + 1, t, ks, cs, 0, x, _, hx => by simp [DataW.trod] at hx
  | d + 1, t, ks, cs, fuel + 1, x, h, hx => by
    unfold flatK at h
    cases hu : P.underlying t with
    | none => rw [hu] at h; cases h
    | some u =>
      rw [hu] at h
      cases u <;> try (cases h; done)
      case bool =>
        cases h
        simp only [DataW.trod, hu] at hx
        split at hx <;> simp_all [fits, fit1]
      case int q =>
        cases h
        obtain ⟨z, rfl, _, hw⟩ := DataW.trod_int hu hx
        exact ⟨⟨rfl, hw⟩, trivial⟩
      case array n e =>
        simp only at h
        cases hk : flatK P d e with
        | none => rw [hk] at h; cases h
        | some ke =>
          rw [hk] at h
          simp only [Option.bind_some] at h
          split at h
          · rename_i hc
            cases h
            simp only [DataW.trod, hu] at hx
            split at hx
            · rename_i hl
              obtain ⟨xs, hm, _⟩ := Option.map_eq_some_iff.1 hx
              refine fits_parts (m := ke.length) n cs (by rw [hl, hc.2]) fun i hi => ?_
              obtain ⟨b, _, hb⟩ := Lib.mapM_at hm i i (by simp [hi])
              rw [hc.1] at hb
              exact fits_of_trod d e ke _ fuel b hk hb
            · cases hx
          · cases h
      case struct fs =>
        simp only at h
        cases hk : flatFs P (flatK P d) 0 fs.toList with
        | none => rw [hk] at h; cases h
        | some ke =>
          rw [hk] at h
          simp only [Option.bind_some] at h
          split at h
          · rename_i hc
            cases h
            simp only [DataW.trod, hu] at hx
            split at hx
            · rename_i hl
              obtain ⟨xs, hm, _⟩ := Option.map_eq_some_iff.1 hx
              have := fits_fields (P := P) (g := flatK P d) (cs := cs) fs.toList 0 ks hk (fun f hf kf hg => by
                obtain ⟨i, hi⟩ := List.getElem?_of_mem hf
                obtain ⟨b, _, hb⟩ := Lib.mapM_at hm i f hi
                exact fits_of_trod d f.type kf _ fuel b hg hb) (by rw [hl, hc, Nat.zero_add])
              simpa using this
            · cases hx
          · cases h
/-! ### What they are -/
theorem nat_of_wf {k : IntKind} {z : Int} {N : Nat} (h : (Lit.int k z).wf = true) (h0 : k.min = 0) (h1 : k.max = (N : Int) - 1) : ∃ n : Nat, n < N ∧ z = (n : Int) := by
  simp [Lit.wf, h0, h1] at h
  exact ⟨z.toNat, by omega, by omega⟩
theorem fits_cons_u {k : IntKind} {ks : List LK} {cs : List Value} {N : Nat} (h : fits (.i k :: ks) cs) (h0 : k.min = 0) (h1 : k.max = (N : Int) - 1) : ∃ (n : Nat) (cs' : List Value), n < N ∧ cs = .int k (n : Int) :: cs' ∧ fits ks cs' := by
  cases cs with
  | nil => exact h.elim
  | cons v cs =>
    obtain ⟨hv, h⟩ := h
    cases v <;> try exact hv.elim
    case int q z =>
      obtain ⟨rfl, hw⟩ := hv
      obtain ⟨n, hn, rfl⟩ := nat_of_wf hw h0 h1
      exact ⟨n, cs, hn, rfl, h⟩
theorem fits_split : ∀ {ka kb : List LK} {cs : List Value}, fits (ka ++ kb) cs → ∃ xs ys, cs = xs ++ ys ∧ fits ka xs ∧ fits kb ys
  | [], _, cs, h => ⟨[], cs, rfl, trivial, h⟩
  | k :: ka, _, [], h => h.elim
  | k :: ka, _, c :: cs, h => by
    obtain ⟨xs, ys, rfl, h1, h2⟩ := fits_split h.2
    exact ⟨c :: xs, ys, rfl, ⟨h.1, h1⟩, h2⟩
theorem bytes_of_fits : ∀ {n : Nat} {cs : List Value}, fits (List.replicate n (.i .u8)) cs → ∃ bs : List (BitVec 8), bs.length = n ∧ cs = v8 bs
  | 0, [], _ => ⟨[], rfl, rfl⟩
  | 0, _ :: _, h => h.elim
  | n + 1, cs, h => by
    rw [List.replicate_succ] at h
    obtain ⟨m, cs', hm, rfl, h'⟩ := fits_cons_u (N := 256) h rfl rfl
    obtain ⟨bs, hb, rfl⟩ := bytes_of_fits h'
    refine ⟨BitVec.ofNat 8 m :: bs, by simp [hb], ?_⟩
    unfold v8
    rw [List.map_cons]
    congr 2
    unfold iv
    rw [BitVec.toNat_ofNat]
    omega
theorem pkt_of_fits {cs : List Value} (h : fits PktD.kinds cs) : ∃ p : PktD, p.ok ∧ cs = p.cells := by
  unfold PktD.kinds at h
  obtain ⟨x0, y0, rfl, h0, h⟩ := fits_split h
  obtain ⟨x1, y1, rfl, h1, h⟩ := fits_split h
  obtain ⟨x2, y2, rfl, h2, h⟩ := fits_split h
  obtain ⟨x3, x4, rfl, h3, h4⟩ := fits_split h
  obtain ⟨who, c0, hw, rfl, ha⟩ := fits_cons_u (N := 65536) h0 rfl rfl
  obtain ⟨epoch, c1, he, rfl, hb⟩ := fits_cons_u (N := 4294967296) ha rfl rfl
  obtain ⟨b1, l1, rfl⟩ := bytes_of_fits h1
  obtain ⟨b2, l2, rfl⟩ := bytes_of_fits h2
  obtain ⟨b3, l3, rfl⟩ := bytes_of_fits h3
  obtain ⟨b4, l4, rfl⟩ := bytes_of_fits h4
  cases c1 with
  | cons _ _ => exact hb.elim
  | nil => exact ⟨⟨who, epoch, b1, b2, b3, b4⟩, ⟨hw, he, l1, l2, l3, l4⟩, rfl⟩
theorem hop_of_fits {cs : List Value} (h : fits HopD.kinds cs) : ∃ p : HopD, p.ok ∧ cs = p.cells := by
  unfold HopD.kinds at h
  obtain ⟨x0, y0, rfl, h0, h⟩ := fits_split h
  obtain ⟨x1, y1, rfl, h1, h⟩ := fits_split h
  obtain ⟨x2, y2, rfl, h2, h⟩ := fits_split h
  obtain ⟨x3, x4, rfl, h3, h4⟩ := fits_split h
  obtain ⟨a, c0, ha, rfl, g0⟩ := fits_cons_u (N := 65536) h0 rfl rfl
  obtain ⟨w, c1, hw, rfl, g1⟩ := fits_cons_u (N := 65536) g0 rfl rfl
  obtain ⟨k, lk, rfl⟩ := bytes_of_fits h1
  obtain ⟨e, c2, he, rfl, g2⟩ := fits_cons_u (N := 4294967296) h2 rfl rfl
  obtain ⟨n, ln, rfl⟩ := bytes_of_fits h3
  obtain ⟨lo, c3, hlo, rfl, g3⟩ := fits_cons_u (N := 18446744073709551616) h4 rfl rfl
  obtain ⟨hi, c4, hhi, rfl, g4⟩ := fits_cons_u (N := 18446744073709551616) g3 rfl rfl
  obtain ⟨dl, c5, hdl, rfl, g5⟩ := fits_cons_u (N := 4294967296) g4 rfl rfl
  cases c1 with
  | cons _ _ => exact g1.elim
  | nil => cases c2 with
    | cons _ _ => exact g2.elim
    | nil => cases c5 with
      | cons _ _ => exact g5.elim
      | nil => exact ⟨⟨a, w, k, e, n, lo, hi, dl⟩, ⟨ha, hw, lk, he, ln, hlo, hhi, hdl⟩, rfl⟩
section
variable {H : Type} {enc : TypeId × Value → H} {P : Program} {w : World} {base : Nat} {sp : Nat → Bool} {held : Bool} {t : TypeId} {v : Value} {d : DataW H} {ps : List MemPlace}
theorem okWide_array {n : Nat} {e : TypeId} {r : Nat} (hu : P.underlying t = some (.array n e)) (h : Value.okWide P w .any r t v) : ∃ cs, v = .agg cs := by
  simp only [Value.okWide, hu] at h
  obtain ⟨cs, h1, _⟩ := h
  exact ⟨cs, h1⟩
theorem open_bytes {n e b2 : Nat} (hk : flatK P 4 t = some (List.replicate n (.i .u8))) (hu : P.underlying t = some (.array n e)) (hv : Value.okWide P w .any b2 t v) (h : DataW.Trod enc P w base sp held t v d ps) : ∃ bs : List (BitVec 8), bs.length = n ∧ v = .agg (v8 bs).toArray := by
  obtain ⟨cs, rfl⟩ := okWide_array hu hv
  obtain ⟨fuel, hf⟩ := h
  obtain ⟨bs, hl, he⟩ := bytes_of_fits (fits_of_trod _ _ _ _ _ _ hk hf)
  exact ⟨bs, hl, by rw [← he]; rfl⟩
theorem open_pkt {b2 : Nat} {fs : Array Field} (hk : flatK P 6 t = some PktD.kinds) (hu : P.underlying t = some (.struct fs)) (hv : Value.okWide P w .any b2 t v) (h : DataW.Trod enc P w base sp held t v d ps) : ∃ p : PktD, p.ok ∧ v = .agg p.cells.toArray := by
  obtain ⟨cs, rfl, _⟩ := okWide_struct hu hv
  obtain ⟨fuel, hf⟩ := h
  obtain ⟨p, hp, he⟩ := pkt_of_fits (fits_of_trod _ _ _ _ _ _ hk hf)
  exact ⟨p, hp, by rw [← he]; rfl⟩
theorem map_pick {α β : Type} {R : α → β → Prop} : ∀ (n : Nat) (f : Nat → α), (∀ i, i < n → ∃ b, R (f i) b) → ∃ bs : List β, bs.length = n ∧ ∀ i b, bs[i]? = some b → R (f i) b
  | 0, _, _ => ⟨[], rfl, fun i b h => by simp at h⟩
  | n + 1, f, h => by
    obtain ⟨b0, h0⟩ := h 0 (by omega)
    obtain ⟨bs, hl, hb⟩ := map_pick n (fun i => f (i + 1)) fun i hi => h (i + 1) (by omega)
    refine ⟨b0 :: bs, by simp [hl], fun i b hi => ?_⟩
    cases i with
    | zero => cases hi; exact h0
    | succ i => exact hb i b hi
theorem range_elems {w : World} {b : Nat} : ∀ (hops : List HopO) (off : Nat), (∀ (i : Nat) (x : HopO), hops[i]? = some x → w.rangeAt b (off + i * 54) (hopC x)) → w.rangeAt b off (cl hopC hops)
  | [], _, _ => fun j v h => by simp [cl] at h
  | x :: xs, off, h => fun j v hj => by
    have hl : (hopC x).length = 54 := HopD.cells_length x.2.key x.2.nonce
    have hj : (hopC x ++ cl hopC xs)[j]? = some v := hj
    by_cases hlt : j < 54
    · rw [List.getElem?_append_left (by omega)] at hj
      have := h 0 x rfl j v hj
      simpa using this
    · rw [List.getElem?_append_right (by omega), hl] at hj
      have := range_elems xs (off + 54) (fun i y hy => by
        have := h (i + 1) y (by simpa using hy)
        rw [show off + 54 + i * 54 = off + (i + 1) * 54 by omega]
        exact this) (j - 54) v hj
      rwa [show off + 54 + (j - 54) = off + j by omega] at this
/-- Hops that came in. -/
theorem open_hops {e b2 : Nat} (hk : flatK P 6 e = some HopD.kinds) (hu : P.underlying t = some (.slice e)) (hc : P.cellsOf e = 54) (hv : Value.okWide P w .any b2 t v) (h : DataW.Trod enc P w base sp held t v d ps) : ∃ hops : List HopO, SeeL 54 hopC w [] v hops := by
  obtain ⟨a, len, cap, rfl⟩ := okWide_slice hu hv
  obtain ⟨hlen, b, off, hrow⟩ := slice_row hu (by rw [hc]; omega) h
  rw [hc] at hrow
  have hsp : ∃ b off, len ≤ cap ∧ (a = none → len = 0 ∧ cap = 0) ∧ ∀ x, a = some x → x = ⟨b, off, none⟩ := by
    simp only [Value.okWide, hu, Cell.okWide] at hv
    cases a with
    | none =>
      cases len <;> cases cap <;> simp [Cell.ok, hu] at hv
      exact ⟨0, 0, Nat.le_refl _, fun _ => ⟨rfl, rfl⟩, fun x e => by cases e⟩
    | some y =>
      simp only [Cell.ok, hu] at hv
      obtain ⟨h1, _, _, h2, _⟩ := hv
      obtain ⟨yb, yo, ys⟩ := y
      cases h2
      exact ⟨yb, yo, h1, (fun e => by cases e), fun x e => by cases e; rfl⟩
  obtain ⟨b', off', hle, hnil, hat⟩ := hsp
  have hpick : ∀ i, i < len → ∃ x : HopO, w.rangeAt b' (off' + i * 54) (hopC x) := fun i hi => by
    obtain ⟨rfl, cs, n, x, hcl, hcell, htr⟩ := hrow i hi
    have e := hat _ rfl
    cases e
    obtain ⟨p, hp, rfl⟩ := hop_of_fits (fits_of_trod _ _ _ _ _ _ hk htr)
    refine ⟨⟨p, hp⟩, fun j v hj => ?_⟩
    have hlt := (List.getElem?_eq_some_iff.1 hj).1
    rw [hcell j (by rw [← hcl]; exact hlt)]
    exact hj
  obtain ⟨hops, hl, hh⟩ := map_pick (R := fun (i : Nat) (x : HopO) => w.rangeAt b' (off' + i * 54) (hopC x)) len id hpick
  refine ⟨hops, a, cap, b', off', by rw [hl], by omega, fun h0 => ?_, ⟨fun e => (hnil e).2, hat⟩, fun w' H => ?_⟩
  · cases a with
    | none => have := (hnil rfl).1; omega
    | some y => rw [hat y rfl]
  · intro j v hj
    have h9 := range_elems hops off' (fun i x hx => hh i x hx) j v hj
    exact (H.below.cell (World.block_lt_of_cell? w _ h9)).trans h9
end
end Go.Hg
namespace Go.Hg
open Go.RowKit
set_option linter.unusedVariables false
def keyA : List (BitVec 8) := 1 :: zs 31
def keyB : List (BitVec 8) := 2 :: zs 31
def hopA : HopD := ⟨1, 7, keyA, 0, 3 :: zs 15, 0, 9, 4⟩
def hopB : HopD := ⟨2, 8, keyB, 0, 4 :: zs 15, 5, 6, 0⟩
def bodyA : List (BitVec 8) := [1, 2, 3] ++ zs 253
theorem hopA_ok : hopA.ok := ⟨by decide, by decide, by decide, by decide, by decide, by decide, by decide, by decide⟩
theorem hopB_ok : hopB.ok := ⟨by decide, by decide, by decide, by decide, by decide, by decide, by decide, by decide⟩
theorem keyA_length : keyA.length = 32 := by decide
theorem keyB_length : keyB.length = 32 := by decide
theorem bodyA_length : bodyA.length = 256 := by rw [bodyA, List.length_append, zs_length]; rfl
def hopsAB : List HopO := [⟨hopA, hopA_ok⟩, ⟨hopB, hopB_ok⟩]
theorem hopsAB_map : hopsAB.map (·.1) = [hopA, hopB] := rfl
/-- A MAC that is not the packet's. -/
theorem peel_wrong {key : List (BitVec 8)} {p : PktD} {m : List (BitVec 8)} (h : macOf key p = p.mac) (hm : m ≠ p.mac) : peelOf key { p with mac := m } = (SlotD.zero, PktD.zero, 4) := by
  unfold peelOf
  have e : macOf key { p with mac := m } = macOf key p := rfl
  rw [e, h]
  exact if_pos fun e => hm e.symm
theorem peel_zero {key : List (BitVec 8)} {p : PktD} {s : SlotD} {q : PktD} (h : peelOf key p = (s, q, 0)) : macOf key p = p.mac := by
  unfold peelOf at h
  split at h
  · cases h
  · rename_i hn
    simpa using hn
/-- A slot that came out is one. -/
theorem peel_ok {key : List (BitVec 8)} {p q : PktD} {s : SlotD} {e : Nat} (po : p.ok) (h : peelOf key p = (s, q, e)) : s.ok ∧ q.ok := by
  unfold peelOf at h
  split at h
  · cases h
    exact ⟨SlotD.zero_ok, PktD.zero_ok⟩
  · split at h
    · cases h
      exact ⟨SlotD.zero_ok, PktD.zero_ok⟩
    · rename_i s' hd
      cases h
      have hol := openOf_length key po.head
      have so := (SlotD.dec_some (by rw [List.length_take, hol]; rfl) hd).2.1
      refine ⟨so, so.who, so.epoch, so.nonce, so.mac, by rw [List.length_drop, hol], ?_⟩
      rw [xorB_length, po.body, bodiesOf_length (keysOf_ok _ _ _)]
      rfl
structure Shown (p : PktD) (s : SlotD) (q : PktD) (t : SlotD) (r : PktD) : Prop where
  bld : buildOf [hopA, hopB] 77 bodyA = some p
  po : p.ok
  one : peelOf keyA p = (s, q, 0)
  so : s.ok
  qo : q.ok
  last : s.last = false
  next : s.next = 2
  delay : s.delay = 4
  hi : s.hi = 9
  two : peelOf keyB q = (t, r, 0)
  t_ok : t.ok
  ro : r.ok
  tlast : t.last = true
  box : t.box = 77
  lo : t.lo = 5
  body : r.body = bodyA
  bad : ∀ m, m ≠ p.mac → peelOf keyA { p with mac := m } = (SlotD.zero, PktD.zero, 4)
theorem shown_facts : ∃ p s q t r, Shown p s q t r := by
  have hs : (buildF 77 bodyA [hopA, hopB] []).isSome = true := (buildF_none 77 bodyA [hopA, hopB] [] (by simp)).2 fun h hm => by
    simp at hm
    rcases hm with rfl | rfl <;> decide
  obtain ⟨p, hp⟩ := Option.isSome_iff_exists.1 hs
  have hall : ∀ x ∈ [hopA, hopB], x.ok := fun x hx => by
    simp at hx
    rcases hx with rfl | rfl
    · exact hopA_ok
    · exact hopB_ok
  have L := layer_all (box := 77) (by omega) bodyA_length [hopB] hopA [] p hall (by simp) hp
  obtain ⟨q, hq, h1⟩ := L.peel
  have hfl : (fillStep [] hopA).length = 64 := fillStep_length (by simp)
  have M := layer_all (box := 77) (by omega) bodyA_length [] hopB (fillStep [] hopA) q (fun x hx => hall x (List.mem_cons_of_mem _ hx)) (by rw [hfl]; simp) hq
  obtain ⟨r, h2, hb, hro⟩ := M.peel
  have hbld : buildOf [hopA, hopB] 77 bodyA = some p := by rw [buildOf_F (by simp) (by simp)]; exact hp
  have h1 : peelOf keyA p = _ := h1
  have h2 : peelOf keyB q = _ := h2
  exact ⟨p, _, q, _, r, hbld, L.ok, h1, (peel_ok L.ok h1).1, M.ok, rfl, rfl, rfl, rfl, h2, (peel_ok M.ok h2).1, hro, rfl, rfl, rfl, hb, fun m hm => peel_wrong (peel_zero h1) hm⟩
theorem slot_at0 (s : SlotD) : s.cells.toArray[0]? = some (.bool s.last) := by rw [List.getElem?_toArray]; rfl
theorem slot_at1 (s : SlotD) : s.cells.toArray[1]? = some (.int .u16 (s.next : Int)) := by rw [List.getElem?_toArray]; rfl
theorem slot_at2 (s : SlotD) : s.cells.toArray[2]? = some (.int .u16 (s.box : Int)) := by rw [List.getElem?_toArray]; rfl
theorem slot_at37 {s : SlotD} (h : s.ok) : s.cells.toArray[37]? = some (.int .u64 (s.lo : Int)) := by rw [List.getElem?_toArray]; exact (SlotD.cells_post h.nonce h.mac 0).trans rfl
theorem slot_at38 {s : SlotD} (h : s.ok) : s.cells.toArray[38]? = some (.int .u64 (s.hi : Int)) := by rw [List.getElem?_toArray]; exact (SlotD.cells_post h.nonce h.mac 1).trans rfl
theorem slot_at39 {s : SlotD} (h : s.ok) : s.cells.toArray[39]? = some (.int .u32 (s.delay : Int)) := by rw [List.getElem?_toArray]; exact (SlotD.cells_post h.nonce h.mac 2).trans rfl
theorem pkt_at18 {p : PktD} (h : p.ok) {m : BitVec 8} {ms : List (BitVec 8)} (e : p.mac = m :: ms) : p.cells.toArray[18]? = some (.int .u8 (iv m)) := by
  have h2 := PktD.part_mac h
  rw [e] at h2
  have h3 : ((p.cells.drop 18).take 16)[0]? = some (.int .u8 (iv m)) := by rw [h2]; rfl
  rw [List.getElem?_take, if_pos (by omega), List.getElem?_drop] at h3
  rw [List.getElem?_toArray]
  exact h3
theorem pkt_mac0 {p : PktD} (h : p.ok) {m y : BitVec 8} {ms : List (BitVec 8)} (e : p.mac = m :: ms) : p.cells.toArray.setIfInBounds 18 (.int .u8 (iv y)) = ({ p with mac := y :: ms } : PktD).cells.toArray := by
  apply Array.ext'
  rw [Array.toList_setIfInBounds]
  show p.cells.set 18 _ = _
  unfold PktD.cells
  rw [e]
  rw [List.set_append_right _ _ (by simp)]
  rw [List.set_append_right _ _ (by simp [v8_length, h.nonce])]
  have e2 : (18 : Nat) - ([Value.int .u16 (p.who : Int), .int .u32 (p.epoch : Int)]).length - (v8 p.nonce).length = 0 := by simp [v8_length, h.nonce]
  rw [e2]
  rfl
end Go.Hg
namespace Go.Hg
open Go.RowKit
set_option linter.unusedVariables false
section
variable {α : Type} {P : Program} {e : TypeId} {size by_ : Nat} {c : α → List Value} {w w0 : World} {L : List SP}
theorem El.cl_cell (E : El P e size by_ c) : ∀ {ys : List α} {i j : Nat} {y z : α} {u : Value}, ys[i]? = some y → j < size → (c y).set j u = c z → cl c (ys.set i z) = (cl c ys).set (i * size + j) u
  | [], i, j, y, z, u, h, _, _ => by simp at h
  | x :: t, 0, j, y, z, u, h, hj, hz => by
    obtain rfl : x = y := by simpa using h
    show c z ++ cl c t = (c x ++ cl c t).set _ u
    rw [Nat.zero_mul, Nat.zero_add, List.set_append_left _ _ (by rw [E.len]; exact hj), hz]
  | x :: t, i + 1, j, y, z, u, h, hj, hz => by
    show c x ++ cl c (t.set i z) = (c x ++ cl c t).set _ u
    rw [List.set_append_right _ _ (by rw [E.len, Nat.add_mul]; omega), E.len, El.cl_cell E (by simpa using h) hj hz]
    congr 2
    rw [Nat.add_mul]
    omega
variable {o : Oper} {a : Act} {K : Act → World → Prop} {Q : Exit → Act → World → Prop}
/-- One cell of an element is written over. -/
theorem wp_lset (E : El P e size by_ c) (ty : TypeId) (x y : Operand) (ho : o.op = .store ty x y) {g off cap i j m : Nat} {ys : List α} {y0 z : α} (hm : m = ys.length)
    (hx : a.eval x = .pointer (some ⟨g, off + i * size + j, none⟩)) {u : Value} (hy : a.eval y = u) (hi : (P.info? ty).map (·.size) = some 1) (h1 : u.oneCell' = true) (hold : ys[i]? = some y0) (hj : j < size) (hz : (c y0).set j u = c z)
    (H : At w0 (lrow e size c (.slice (some ⟨g, off, none⟩) m cap) ys :: L) w)
    (h : ∀ w', At w0 (lrow e size c (.slice (some ⟨g, off, none⟩) m cap) (ys.set i z) :: L) w' → K (a.put o.dst undef) w') : OWp P o a w K Q := by
  subst hm
  have hlt := (List.getElem?_eq_some_iff.1 hold).1
  unfold lrow at H h
  obtain ⟨cur, hb, hn, hm, hs, ht⟩ := At.rows_blk H
  have hls := E.cl_length ys
  have hcap : ys.length * size ≤ cap * size := Nat.mul_le_mul_right _ hn
  have hi1 : (i + 1) * size ≤ ys.length * size := Nat.mul_le_mul_right _ hlt
  rw [Nat.add_mul, Nat.one_mul] at hi1
  have hst := run_storeCells_at P g (off + i * size + j) e [u] 0 cur w hb (by simp; omega) (fun v hv => by simp at hv; subst hv; exact h1)
  simp only [Nat.add_zero] at hst
  have hset : cl c (ys.set i z) = (cl c ys).take (i * size + j) ++ [u] ++ (cl c ys).drop (i * size + j + [u].length) := by
    rw [El.cl_cell E hold hj hz, List.set_eq_take_append_cons_drop, if_pos (by rw [hls]; omega)]
    simp
  have H2 := At.rows_upd H (n' := (ys.set i z).length) (cur' := (cur.toList.take (off + i * size + j) ++ [u] ++ cur.toList.drop (off + i * size + j + [u].length)).toArray) (xs' := cl c (ys.set i z)) hb (by simpa using hn) hm
    (by simp; omega) (E.cl_length _) (by
      simp only [List.length_set]
      have := splice_mid cur.toList [u] off (i * size + j) (ys.length * size) (by simp; omega) (by simp; omega)
      rw [← Nat.add_assoc] at this
      rw [this, ht, hset])
  have h3 := h _ (by simpa using H2)
  refine owp ?_
  cases hq : P.info? ty with
  | none => simp [hq] at hi
  | some d =>
    have hsz : d.size = 1 := by simpa [hq] using hi
    have hcs : u.cells = #[u] := by cases u <;> first | rfl | simp [Value.oneCell'] at h1
    unfold Oper.wp execOp
    simp only [ho, Instr.storeAt, hx, hy, Instr.sureAddr, storeVar, sizeOf, typeInfo, Sem.run_bind, Sem.run_pure, Result.andThen_ok]
    simp only [Sem.run, program, hq, Sem.run_pure, Result.andThen_ok, hcs, hsz, ne_eq]
    simp [hst, Oper.upon]
    simpa using h3
end
/-! ### Layer by layer -/
structure BkInv (box : Nat) (body : List (BitVec 8)) (L : List HopO) (c : Nat) (p : PktD) : Prop where
  more : c < L.length → ∃ f, f.length + 64 * (L.length - c) ≤ 320 ∧ buildF box body ((L.drop c).map (·.1)) f = some p
  last : c = L.length → p.body = body
  ok : p.ok
structure BkStep (box : Nat) (body : List (BitVec 8)) (L : List HopO) (c : Nat) (h : HopD) (p : PktD) (s : SlotD) (q : PktD) : Prop where
  peel : peelOf h.key p = (s, q, 0)
  who : p.who = h.who
  epoch : p.epoch = h.epoch
  nonce : p.nonce = h.nonce
  lo : s.lo = h.lo
  hi : s.hi = h.hi
  delay : s.delay = h.delay
  inv : BkInv box body L (c + 1) q
  kind : (c + 1 = L.length ∧ s.last = true ∧ s.box = box) ∨ (∃ n : HopO, L[c + 1]? = some n ∧ s.last = false ∧ s.next = n.1.addr ∧ s.mac = q.mac)
theorem drop_some {α : Type} {L : List α} {c : Nat} {h : α} (hc : L[c]? = some h) : L.drop c = h :: L.drop (c + 1) := by
  obtain ⟨hl, rfl⟩ := List.getElem?_eq_some_iff.1 hc
  exact List.drop_eq_getElem_cons hl
theorem back_step {box : Nat} {body : List (BitVec 8)} {L : List HopO} {c : Nat} {h : HopO} {p : PktD} (hbox : box < 65536) (hb : body.length = 256) (hc : L[c]? = some h) (I : BkInv box body L c p) : ∃ s q, BkStep box body L c h.1 p s q := by
  have hl := (List.getElem?_eq_some_iff.1 hc).1
  obtain ⟨f, hf, hp⟩ := I.more hl
  rw [drop_some hc, List.map_cons] at hp
  have hall : ∀ x ∈ h.1 :: (L.drop (c + 1)).map (·.1), x.ok := fun x hx => by
    rcases List.mem_cons.1 hx with rfl | hx
    · exact h.2
    · obtain ⟨z, _, rfl⟩ := List.mem_map.1 hx
      exact z.2
  have Y := layer_all hbox hb _ h.1 f p hall (by rw [List.length_map, List.length_drop]; omega) hp
  have hfl : (fillStep f h.1).length = f.length + 64 := fillStep_length (by omega)
  have hq := Y.peel
  cases hr : L[c + 1]? with
  | none =>
    have hn : L.length ≤ c + 1 := List.getElem?_eq_none_iff.1 hr
    rw [List.drop_of_length_le hn, List.map_nil] at hq
    obtain ⟨r, hpe, hbo, hro⟩ := hq
    exact ⟨_, r, hpe, Y.who.1, Y.who.2.1, Y.who.2.2, rfl, rfl, rfl, ⟨fun h => by omega, fun _ => hbo, hro⟩, .inl ⟨by omega, rfl, rfl⟩⟩
  | some n =>
    have hn := (List.getElem?_eq_some_iff.1 hr).1
    rw [drop_some hr, List.map_cons] at hq
    obtain ⟨q, hbq, hpe⟩ := hq
    have hqo := layer_all hbox hb _ n.1 (fillStep f h.1) q (fun x hx => by
      rcases List.mem_cons.1 hx with rfl | hx
      · exact n.2
      · obtain ⟨z, _, rfl⟩ := List.mem_map.1 hx
        exact z.2) (by rw [List.length_map, List.length_drop, hfl]; omega) hbq
    exact ⟨_, q, hpe, Y.who.1, Y.who.2.1, Y.who.2.2, rfl, rfl, rfl, ⟨fun _ => ⟨fillStep f h.1, by omega, by rw [drop_some hr, List.map_cons]; exact hbq⟩, fun h => by omega, hqo.ok⟩, .inr ⟨n, hr, rfl, rfl, rfl⟩⟩
theorem back_start {box : Nat} {body : List (BitVec 8)} {L : List HopO} (hbox : box < 65536) (hb : body.length = 256) (h1 : 1 ≤ L.length) (h5 : L.length ≤ 5) (hle : ∀ x ∈ L, x.1.lo ≤ x.1.hi) : ∃ p, buildOf (L.map (·.1)) box body = some p ∧ BkInv box body L 0 p := by
  have e := buildOf_F (hops := L.map (·.1)) (box := box) (body := body) (by rwa [List.length_map]) (by rwa [List.length_map])
  have hne : L.map (·.1) ≠ [] := fun e => by have := congrArg List.length e; simp at this; subst this; simp at h1
  obtain ⟨p, hp⟩ := Option.isSome_iff_exists.1 ((buildF_none box body (L.map (·.1)) [] hne).2 fun x hx => by
    obtain ⟨z, hz, rfl⟩ := List.mem_map.1 hx
    exact hle z hz)
  cases L with
  | nil => simp at h1
  | cons x xs =>
    refine ⟨p, by rw [e]; exact hp, fun _ => ⟨[], by simp at h5 ⊢; omega, hp⟩, fun h => by simp at h, ?_⟩
    rw [List.map_cons] at hp
    exact (layer_all hbox hb (xs.map (·.1)) x.1 [] p (fun y hy => by
      rw [← List.map_cons (f := Subtype.val)] at hy
      obtain ⟨z, _, rfl⟩ := List.mem_map.1 hy
      exact z.2) (by simp at h5 ⊢; omega) hp).ok
theorem hop_set_lo {h : HopD} (hk : h.key.length = 32) (hn : h.nonce.length = 16) (n : Nat) : h.cells.set 51 (.int .u64 (n : Int)) = ({ h with lo := n } : HopD).cells := by
  unfold HopD.cells
  rw [← List.append_assoc, ← List.append_assoc, ← List.append_assoc, List.set_append_right _ _ (by simp [v8_length, hk, hn]), List.append_assoc, List.append_assoc, List.append_assoc]
  simp [v8_length, hk, hn]
theorem hop_set_hi {h : HopD} (hk : h.key.length = 32) (hn : h.nonce.length = 16) (n : Nat) : h.cells.set 52 (.int .u64 (n : Int)) = ({ h with hi := n } : HopD).cells := by
  unfold HopD.cells
  rw [← List.append_assoc, ← List.append_assoc, ← List.append_assoc, List.set_append_right _ _ (by simp [v8_length, hk, hn]), List.append_assoc, List.append_assoc, List.append_assoc]
  simp [v8_length, hk, hn]
end Go.Hg
