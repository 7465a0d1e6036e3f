import Derived.Test.YtmflbekabkainaaGreatDoorQNLawS
set_option linter.unusedVariables false
set_option linter.unusedSimpArgs false
namespace Go.Hg
open Go.RowKit
namespace OpD
def tag (o : OpD) (now : Nat) : Bytes := tagOf (keyN o.key) (o.epoch now) ([o.nonce, 9] ++ zs 14)
structure Peeled (o : OpD) (now : Nat) (x : WtO) : Prop where
 peel : peelOf (keyN o.key) (o.pkt now) = (x.1.s, x.1.p, 0)
 who : (o.pkt now).who = o.who
 epoch : (o.pkt now).epoch = o.epoch now
 nonce : (o.pkt now).nonce = [o.nonce, 9] ++ zs 14
 lo : x.1.s.lo = min (o.lo now) (o.hi now)
 hi : x.1.s.hi = max (o.lo now) (o.hi now)
 delay : x.1.s.delay = o.delay
 last : x.1.s.last = o.last
 box : o.last = true → x.1.s.box = o.box
 next : o.last = false → x.1.s.next = o.next
theorem peeled {o : OpD} (h : o.ok) {now : Nat} (hn : now < 18446744073709551616) : ∃ x, Peeled o now x := by
 obtain ⟨_, hi⟩ := pkt_some h hn
 have h0 : (o.hops h now hn)[0]? = some ⟨o.hop1 now, hop1_ok h hn⟩ := by unfold hops; split <;> rfl
 obtain ⟨s, q, B⟩ := back_step h.box (zs_length 256) h0 hi
 have hp := B.peel
 have ho := peel_ok (pkt_ok h hn) hp
 refine ⟨⟨⟨s, q⟩, ho.1, ho.2⟩, hp, B.who, B.epoch, B.nonce, B.lo, B.hi, B.delay, ?_, ?_, ?_⟩
 · rcases B.kind with ⟨h1, h2, h3⟩ | ⟨n, h1, h2, h3, h4⟩
   · rw [hops_len] at h1
     show s.last = o.last
     rw [h2]
     cases hl : o.last with
     | true => rfl
     | false => rw [hl] at h1; simp at h1
   · show s.last = o.last
     rw [h2]
     have := (List.getElem?_eq_some_iff.1 h1).1
     rw [hops_len] at this
     cases hl : o.last with
     | true => rw [hl] at this; simp at this
     | false => rfl
 · intro hl
   rcases B.kind with ⟨h1, h2, h3⟩ | ⟨n, h1, h2, h3, h4⟩
   · exact h3
   · have := (List.getElem?_eq_some_iff.1 h1).1
     rw [hops_len, hl] at this
     simp at this
 · intro hl
   rcases B.kind with ⟨h1, h2, h3⟩ | ⟨n, h1, h2, h3, h4⟩
   · rw [hops_len, hl] at h1
     simp at h1
   · have h5 : (o.hops h now hn)[0 + 1]? = some ⟨o.hop2, hop2_ok h⟩ := by unfold hops; rw [if_neg (by rw [hl]; simp)]; rfl
     rw [h5] at h1
     cases h1
     exact h3
theorem takeE_built {S : NodeD} {o : OpD} (h : o.ok) {now t : Nat} (hn : now < 18446744073709551616) (ht : o.turn = 0) {x : WtO} (P : Peeled o now x) (hc : mlook S.cl o.who = some (keyN o.key)) :
    S.takeE (o.built now) t = if t / 1000 < 4294967296 ∧ (o.epoch now = t / 1000 ∨ o.epoch now + 1 = t / 1000) then
     (if t < min (o.lo now) (o.hi now) then 5 else if max (o.lo now) (o.hi now) < t then 6 else if 18446744073709551616 ≤ t + o.delay then 9 else S.freshE (o.epoch now, o.tag now)) else 11 := by
 have hl := built_length h hn
 have hu : unpackOf (o.built now) = o.pkt now := by rw [built_plain h hn ht, unpack_pack (pkt_ok h hn)]
 have hk : S.keyOf (o.pkt now) = keyN o.key := by unfold NodeD.keyOf; rw [P.who, hc]; rfl
 have ho : S.openE (o.pkt now) t = if t / 1000 < 4294967296 ∧ (o.epoch now = t / 1000 ∨ o.epoch now + 1 = t / 1000) then 0 else 11 := by
  unfold NodeD.openE
  rw [P.who, hc, P.epoch, if_neg (by simp)]
 have hpl : S.peelP (o.pkt now) = (x.1.s, x.1.p, 0) := by unfold NodeD.peelP; rw [hk]; exact P.peel
 have htg : S.tagP (o.pkt now) = (o.epoch now, o.tag now) := by unfold NodeD.tagP tag; rw [hk, P.epoch, P.nonce]
 unfold NodeD.takeE
 rw [hl, hu, ho, hpl, htg, P.lo, P.hi, P.delay]
 by_cases he : t / 1000 < 4294967296 ∧ (o.epoch now = t / 1000 ∨ o.epoch now + 1 = t / 1000)
 · simp [he]
 · simp [he]
theorem take_built {S : NodeD} {o : OpD} (h : o.ok) {now t : Nat} (hn : now < 18446744073709551616) (ht : o.turn = 0) {x : WtO} (P : Peeled o now x) (hc : mlook S.cl o.who = some (keyN o.key)) (h0 : S.takeE (o.built now) t = 0) :
    S.take (o.built now) t = S.add (o.epoch now, o.tag now) (t + o.delay) x := by
 have hu : unpackOf (o.built now) = o.pkt now := by rw [built_plain h hn ht, unpack_pack (pkt_ok h hn)]
 have hk : S.keyOf (o.pkt now) = keyN o.key := by unfold NodeD.keyOf; rw [P.who, hc]; rfl
 have hpl : S.peelP (o.pkt now) = (x.1.s, x.1.p, 0) := by unfold NodeD.peelP; rw [hk]; exact P.peel
 have htg : S.tagP (o.pkt now) = (o.epoch now, o.tag now) := by unfold NodeD.tagP tag; rw [hk, P.epoch, P.nonce]
 unfold NodeD.take
 rw [if_pos h0, hu, hpl, htg, P.delay]
 congr 1
 unfold NodeD.wtOf
 rw [dif_pos ⟨x.2.s, x.2.p⟩]
end OpD
def oB : OpD := ⟨0, 0, 7, 0, 0, 2, 2, 5, 0, false, 0, 6, 0, 0, .slice none 0 0⟩
def oC : OpD := ⟨0, 0, 7, 0, 0, 2, 2, 1, 3, true, 1, 0, 0, 0, .slice none 0 0⟩
theorem oB_ok : oB.ok := ⟨by decide, by decide, by decide, by decide, by decide, by decide, by decide, by decide, by decide, by decide, _, _, _, rfl⟩
theorem oC_ok : oC.ok := ⟨by decide, by decide, by decide, by decide, by decide, by decide, by decide, by decide, by decide, by decide, _, _, _, rfl⟩
theorem tags_ne : oC.tag 1500 ≠ oB.tag 1500 := by
 have h1 : gb (oB.tag 1500) 0 = 91 := by kernel_rfl
 have h2 : gb (oC.tag 1500) 0 = 165 := by kernel_rfl
 intro e
 rw [e, h1] at h2
 exact absurd h2 (by decide)
theorem pops_true {s : NodeD} {n now : Nat} (h : popB s.hp now = true) : NodeD.pops (n + 1) s now = NodeD.pops n (s.pop now) now := by rw [NodeD.pops, if_pos h]
theorem popsO_true {s : NodeD} {n now : Nat} (h : popB s.hp now = true) : NodeD.popsO (n + 1) s now = s.popO now ++ NodeD.popsO n (s.pop now) now := by rw [NodeD.popsO, if_pos h]
structure ShownN (s1 s2 s3 s4 s5 s6 s7 s8 : NodeD) (X : Nat × Bytes) : Prop where
 one : s1 = (NodeD.client (NodeD.fresh 3 4 9 2) 7 (keyN 0)).1 ∧ (NodeD.client (NodeD.fresh 3 4 9 2) 7 (keyN 0)).2 = 0
 two : s2 = s1.take (oB.built 1500) 1500 ∧ s1.takeE (oB.built 1500) 1500 = 0
 three : s3 = s2.take (oB.built 1500) 1501 ∧ s2.takeE (oB.built 1500) 1501 = 7
 four : s4 = s3.take (oC.built 1500) 1501 ∧ s3.takeE (oC.built 1500) 1501 = 0
 five : s5 = s4.take (oC.built 1500) 1600 ∧ s4.takeE (oC.built 1500) 1600 = 6
 six : s6 = s5.take ((oB.built 1500).take 9) 1500 ∧ s5.takeE ((oB.built 1500).take 9) 1500 = 2
 seven : s7 = s6.tick 1504 ∧ s6.tickO 1504 = []
 eight : s8 = s7.tick 1505 ∧ s7.tickO 1505 = [X]
 next : X.1 = 6
 len : X.2.length = 614
 none : s8.hp.length = 0
 box : (s8.mail.getD 1 []).length = 1
 drop : s8.drops[7]? = some 1
 addr : s8.addr = 3
theorem shownN : ∃ s1 s2 s3 s4 s5 s6 s7 s8 X, ShownN s1 s2 s3 s4 s5 s6 s7 s8 X := by
 obtain ⟨x, PB⟩ := OpD.peeled oB_ok (now := 1500) (by omega)
 obtain ⟨y, PC⟩ := OpD.peeled oC_ok (now := 1500) (by omega)
 have hlo : oB.lo 1500 = 1498 := by decide
 have hhi : oB.hi 1500 = 1502 := by decide
 have hlo2 : oC.lo 1500 = 1498 := by decide
 have hhi2 : oC.hi 1500 = 1502 := by decide
 have hep : oB.epoch 1500 = 1 := by decide
 have hep2 : oC.epoch 1500 = 1 := by decide
 obtain ⟨tb, htb⟩ : ∃ t, t = oB.tag 1500 := ⟨_, rfl⟩
 obtain ⟨tc, htc⟩ : ∃ t, t = oC.tag 1500 := ⟨_, rfl⟩
 have hne : tc ≠ tb := by rw [htb, htc]; exact tags_ne
 obtain ⟨s1, hs1⟩ : ∃ s, s = (NodeD.client (NodeD.fresh 3 4 9 2) 7 (keyN 0)).1 := ⟨_, rfl⟩
 have e1 : s1 = ⟨3, 4, 9, [(7, keyN 0)], [], 0, [], [], 0, [[], []], List.replicate 13 0⟩ := by rw [hs1]; rfl
 have tB : ∀ (S : NodeD) (t : Nat), mlook S.cl 7 = some (keyN 0) → t / 1000 = 1 → S.takeE (oB.built 1500) t = if t < 1498 then 5 else if 1502 < t then 6 else S.freshE (1, tb) := fun S t hc h1 => by
  rw [OpD.takeE_built oB_ok (by omega) rfl PB hc, hep, hlo, hhi, ← htb, h1, if_pos ⟨by omega, .inl rfl⟩, show oB.delay = 5 from rfl]
  have : ¬ 18446744073709551616 ≤ t + 5 := by omega
  simp [this]
 have tC : ∀ (S : NodeD) (t : Nat), mlook S.cl 7 = some (keyN 0) → t / 1000 = 1 → S.takeE (oC.built 1500) t = if t < 1498 then 5 else if 1502 < t then 6 else S.freshE (1, tc) := fun S t hc h1 => by
  rw [OpD.takeE_built oC_ok (by omega) rfl PC hc, hep2, hlo2, hhi2, ← htc, h1, if_pos ⟨by omega, .inl rfl⟩, show oC.delay = 1 from rfl]
  have : ¬ 18446744073709551616 ≤ t + 1 := by omega
  simp [this]
 have c1 : mlook s1.cl 7 = some (keyN 0) := by rw [e1]; rfl
 have f2 : s1.takeE (oB.built 1500) 1500 = 0 := by rw [tB s1 1500 c1 (by omega), e1]; rfl
 have e2 : s1.take (oB.built 1500) 1500 = ⟨3, 4, 9, [(7, keyN 0)], [(1505, 0, x)], 1, [((1, tb), true)], [(1, 1)], 0, [[], []], List.replicate 13 0⟩ := by
  rw [OpD.take_built oB_ok (by omega) rfl PB c1 f2, hep, ← htb, e1]
  rfl
 obtain ⟨s2, hs2⟩ : ∃ s, s = s1.take (oB.built 1500) 1500 := ⟨_, rfl⟩
 rw [← hs2] at e2
 have c2 : mlook s2.cl 7 = some (keyN 0) := by rw [e2]; rfl
 have f3 : s2.takeE (oB.built 1500) 1501 = 7 := by
  rw [tB s2 1501 c2 (by omega), e2, if_neg (by decide), if_neg (by decide)]
  unfold NodeD.freshE
  simp [mlook]
 obtain ⟨s3, hs3⟩ : ∃ s, s = s2.take (oB.built 1500) 1501 := ⟨_, rfl⟩
 have e3 : s3 = ⟨3, 4, 9, [(7, keyN 0)], [(1505, 0, x)], 1, [((1, tb), true)], [(1, 1)], 0, [[], []], [0, 0, 0, 0, 0, 0, 0, 1, 0, 0, 0, 0, 0]⟩ := by
  rw [hs3]
  unfold NodeD.take
  rw [f3, if_neg (by decide), e2]
  rfl
 have c3 : mlook s3.cl 7 = some (keyN 0) := by rw [e3]; rfl
 have f4 : s3.takeE (oC.built 1500) 1501 = 0 := by
  rw [tC s3 1501 c3 (by omega), e3, if_neg (by decide), if_neg (by decide)]
  unfold NodeD.freshE
  simp [mlook, Ne.symm hne, hne]
 obtain ⟨s4, hs4⟩ : ∃ s, s = s3.take (oC.built 1500) 1501 := ⟨_, rfl⟩
 have e4 : s4 = ⟨3, 4, 9, [(7, keyN 0)], [(1505, 0, x), (1502, 1, y)], 2, [((1, tb), true), ((1, tc), true)], [(1, 2)], 0, [[], []], [0, 0, 0, 0, 0, 0, 0, 1, 0, 0, 0, 0, 0]⟩ := by
  rw [hs4, OpD.take_built oC_ok (by omega) rfl PC c3 f4, hep2, ← htc, e3]
  simp [NodeD.add, upd, mlook, Ne.symm hne, hne, oC]
 have c4 : mlook s4.cl 7 = some (keyN 0) := by rw [e4]; rfl
 have f5 : s4.takeE (oC.built 1500) 1600 = 6 := by
  rw [tC s4 1600 c4 (by omega)]
  rfl
 obtain ⟨s5, hs5⟩ : ∃ s, s = s4.take (oC.built 1500) 1600 := ⟨_, rfl⟩
 have e5 : s5 = ⟨3, 4, 9, [(7, keyN 0)], [(1505, 0, x), (1502, 1, y)], 2, [((1, tb), true), ((1, tc), true)], [(1, 2)], 0, [[], []], [0, 0, 0, 0, 0, 0, 1, 1, 0, 0, 0, 0, 0]⟩ := by
  rw [hs5]
  unfold NodeD.take
  rw [f5, if_neg (by decide), e4]
  rfl
 have hbl := OpD.built_length oB_ok (now := 1500) (by omega)
 have f6 : s5.takeE ((oB.built 1500).take 9) 1500 = 2 := by
  unfold NodeD.takeE
  rw [if_pos (by rw [List.length_take, hbl]; omega)]
 obtain ⟨s6, hs6⟩ : ∃ s, s = s5.take ((oB.built 1500).take 9) 1500 := ⟨_, rfl⟩
 have e6 : s6 = ⟨3, 4, 9, [(7, keyN 0)], [(1505, 0, x), (1502, 1, y)], 2, [((1, tb), true), ((1, tc), true)], [(1, 2)], 0, [[], []], [0, 0, 1, 0, 0, 0, 1, 1, 0, 0, 0, 0, 0]⟩ := by
  rw [hs6]
  unfold NodeD.take
  rw [f6, if_neg (by decide), e5]
  rfl
 have yl : y.1.s.last = true := PC.last
 have yb : y.1.s.box = 1 := PC.box rfl
 have xl : x.1.s.last = false := PB.last
 have xn : x.1.s.next = 6 := PB.next rfl
 have t7 : NodeD.pops 2 ⟨3, 4, 9, [(7, keyN 0)], [(1505, 0, x), (1502, 1, y)], 2, [((1, tb), true), ((1, tc), true)], [(1, 2)], 0, [[], []], [0, 0, 1, 0, 0, 0, 1, 1, 0, 0, 0, 0, 0]⟩ 1504 =
     ⟨3, 4, 9, [(7, keyN 0)], [(1505, 0, x)], 2, [((1, tb), true), ((1, tc), true)], [(1, 2)], 0, [[], [y.1.p.body]], [0, 0, 1, 0, 0, 0, 1, 1, 0, 0, 0, 0, 0]⟩ ∧
     NodeD.popsO 2 ⟨3, 4, 9, [(7, keyN 0)], [(1505, 0, x), (1502, 1, y)], 2, [((1, tb), true), ((1, tc), true)], [(1, 2)], 0, [[], []], [0, 0, 1, 0, 0, 0, 1, 1, 0, 0, 0, 0, 0]⟩ 1504 = [] := by
  generalize keyN 0 = key0
  have hb : popB ([(1505, 0, x), (1502, 1, y)] : List Thing) 1504 = true := rfl
  have hx : popX ([(1505, 0, x), (1502, 1, y)] : List Thing) 1504 = y := rfl
  have hp : NodeD.pop ⟨3, 4, 9, [(7, key0)], [(1505, 0, x), (1502, 1, y)], 2, [((1, tb), true), ((1, tc), true)], [(1, 2)], 0, [[], []], [0, 0, 1, 0, 0, 0, 1, 1, 0, 0, 0, 0, 0]⟩ 1504 =
   ⟨3, 4, 9, [(7, key0)], [(1505, 0, x)], 2, [((1, tb), true), ((1, tc), true)], [(1, 2)], 0, [[], [y.1.p.body]], [0, 0, 1, 0, 0, 0, 1, 1, 0, 0, 0, 0, 0]⟩ := by
   unfold NodeD.pop
   refine (if_pos yl).trans ?_
   show NodeD.put _ y.1.s.box _ = _
   rw [yb]
   rfl
  have ho : NodeD.popO ⟨3, 4, 9, [(7, key0)], [(1505, 0, x), (1502, 1, y)], 2, [((1, tb), true), ((1, tc), true)], [(1, 2)], 0, [[], []], [0, 0, 1, 0, 0, 0, 1, 1, 0, 0, 0, 0, 0]⟩ 1504 = [] := by
   unfold NodeD.popO
   exact if_pos yl
  constructor
  · rw [pops_true rfl, hp]; rfl
  · rw [popsO_true rfl, ho, hp]; rfl
 have t8 : NodeD.pops 1 ⟨3, 4, 9, [(7, keyN 0)], [(1505, 0, x)], 2, [((1, tb), true), ((1, tc), true)], [(1, 2)], 0, [[], [y.1.p.body]], [0, 0, 1, 0, 0, 0, 1, 1, 0, 0, 0, 0, 0]⟩ 1505 =
     ⟨3, 4, 9, [(7, keyN 0)], [], 2, [((1, tb), true), ((1, tc), true)], [(1, 2)], 0, [[], [y.1.p.body]], [0, 0, 1, 0, 0, 0, 1, 1, 0, 0, 0, 0, 0]⟩ ∧
     NodeD.popsO 1 ⟨3, 4, 9, [(7, keyN 0)], [(1505, 0, x)], 2, [((1, tb), true), ((1, tc), true)], [(1, 2)], 0, [[], [y.1.p.body]], [0, 0, 1, 0, 0, 0, 1, 1, 0, 0, 0, 0, 0]⟩ 1505 = [(x.1.s.next, packOf x.1.p)] := by
  generalize keyN 0 = key0
  have hp : NodeD.pop ⟨3, 4, 9, [(7, key0)], [(1505, 0, x)], 2, [((1, tb), true), ((1, tc), true)], [(1, 2)], 0, [[], [y.1.p.body]], [0, 0, 1, 0, 0, 0, 1, 1, 0, 0, 0, 0, 0]⟩ 1505 =
   ⟨3, 4, 9, [(7, key0)], [], 2, [((1, tb), true), ((1, tc), true)], [(1, 2)], 0, [[], [y.1.p.body]], [0, 0, 1, 0, 0, 0, 1, 1, 0, 0, 0, 0, 0]⟩ := by
   unfold NodeD.pop
   exact (if_neg (show ¬ x.1.s.last = true by rw [xl]; decide)).trans rfl
  have ho : NodeD.popO ⟨3, 4, 9, [(7, key0)], [(1505, 0, x)], 2, [((1, tb), true), ((1, tc), true)], [(1, 2)], 0, [[], [y.1.p.body]], [0, 0, 1, 0, 0, 0, 1, 1, 0, 0, 0, 0, 0]⟩ 1505 = [(x.1.s.next, packOf x.1.p)] := by
   unfold NodeD.popO
   exact (if_neg (show ¬ x.1.s.last = true by rw [xl]; decide)).trans rfl
  constructor
  · rw [pops_true rfl, hp]; rfl
  · rw [popsO_true rfl, ho, hp]; rfl
 have x7 : s6.expire 1504 = s6 := by rw [e6]; rfl
 obtain ⟨s7, hs7⟩ : ∃ s, s = s6.tick 1504 := ⟨_, rfl⟩
 have e7 : s7 = ⟨3, 4, 9, [(7, keyN 0)], [(1505, 0, x)], 2, [((1, tb), true), ((1, tc), true)], [(1, 2)], 0, [[], [y.1.p.body]], [0, 0, 1, 0, 0, 0, 1, 1, 0, 0, 0, 0, 0]⟩ := by
  rw [hs7]
  unfold NodeD.tick
  rw [x7, e6]
  exact t7.1
 have o7 : s6.tickO 1504 = [] := by
  unfold NodeD.tickO
  rw [x7, e6]
  exact t7.2
 have x8 : s7.expire 1505 = s7 := by rw [e7]; rfl
 obtain ⟨s8, hs8⟩ : ∃ s, s = s7.tick 1505 := ⟨_, rfl⟩
 have e8 : s8 = ⟨3, 4, 9, [(7, keyN 0)], [], 2, [((1, tb), true), ((1, tc), true)], [(1, 2)], 0, [[], [y.1.p.body]], [0, 0, 1, 0, 0, 0, 1, 1, 0, 0, 0, 0, 0]⟩ := by
  rw [hs8]
  unfold NodeD.tick
  rw [x8, e7]
  exact t8.1
 have o8 : s7.tickO 1505 = [(x.1.s.next, packOf x.1.p)] := by
  unfold NodeD.tickO
  rw [x8, e7]
  exact t8.2
 refine ⟨s1, s2, s3, s4, s5, s6, s7, s8, (x.1.s.next, packOf x.1.p), ⟨hs1, by rfl⟩, ⟨hs2, f2⟩, ⟨hs3, f3⟩, ⟨hs4, f4⟩, ⟨hs5, f5⟩, ⟨hs6, f6⟩, ⟨hs7, o7⟩, ⟨hs8, o8⟩, xn, packOf_length x.2.p, ?_, ?_, ?_, ?_⟩
 all_goals (rw [e8]; try rfl)
end Go.Hg
