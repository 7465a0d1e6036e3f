import Derived.Test.YtmflbekabkainaaGreatDoorQHgC
import Derived.Maps.Keyed
set_option linter.unusedSectionVars false
set_option linter.unusedVariables false
set_option linter.unusedSimpArgs false
namespace Go.Hg
open Go.RowKit
open Go.Maps (Keyed)
section lists
variable {α β : Type} [DecidableEq α]
def mlook (l : List (α × β)) (x : α) : Option β := (l.find? (fun p => decide (p.1 = x))).map (·.2)
def upd (l : List (α × β)) (x : α) (v : β) : List (α × β) := if x ∈ l.map (·.1) then l.map (fun p => if p.1 = x then (x, v) else p) else l ++ [(x, v)]
theorem mlook_none {l : List (α × β)} {x : α} (h : x ∉ l.map (·.1)) : mlook l x = none := by
 unfold mlook
 rw [Option.map_eq_none_iff, List.find?_eq_none]
 intro p hp e
 exact h (List.mem_map.2 ⟨p, hp, of_decide_eq_true e⟩)
theorem mlook_get : ∀ {l : List (α × β)} {j : Nat} {x : α} {v : β}, (l.map (·.1)).Nodup → l[j]? = some (x, v) → mlook l x = some v
 | [], j, x, v, _, h => by simp at h
 | p :: l, 0, x, v, hn, h => by simp at h; subst h; simp [mlook]
 | p :: l, j + 1, x, v, hn, h => by
  simp at h
  rw [List.map_cons, List.nodup_cons] at hn
  have hm : x ∈ l.map (·.1) := List.mem_map.2 ⟨(x, v), List.mem_of_getElem? h, rfl⟩
  have hne : p.1 ≠ x := fun e => hn.1 (by rw [e]; exact hm)
  have := mlook_get hn.2 h
  simp [mlook, hne] at this ⊢
  exact this
theorem mlook_mem {l : List (α × β)} {x : α} {v : β} (h : mlook l x = some v) : (x, v) ∈ l := by
 unfold mlook at h
 rw [Option.map_eq_some_iff] at h
 obtain ⟨⟨a, b⟩, h1, h2⟩ := h
 have e := List.find?_some h1
 have m := List.mem_of_find?_eq_some h1
 simp at e h2
 subst e h2
 exact m
theorem mlook_some_iff {l : List (α × β)} {x : α} : (mlook l x).isSome = true ↔ x ∈ l.map (·.1) := by
 constructor
 · intro h
   obtain ⟨v, hv⟩ := Option.isSome_iff_exists.1 h
   exact List.mem_map.2 ⟨_, mlook_mem hv, rfl⟩
 · intro h
   cases e : mlook l x with
   | some v => rfl
   | none =>
    obtain ⟨p, hp, rfl⟩ := List.mem_map.1 h
    unfold mlook at e
    rw [Option.map_eq_none_iff, List.find?_eq_none] at e
    exact absurd (e p hp) (by simp)
theorem upd_keys {l : List (α × β)} {x : α} {v : β} : (upd l x v).map (·.1) = if x ∈ l.map (·.1) then l.map (·.1) else l.map (·.1) ++ [x] := by
 unfold upd
 split
 · rw [List.map_map]
   refine List.map_congr_left fun p _ => ?_
   simp only [Function.comp_apply]
   split <;> simp_all
 · simp
theorem upd_nodup {l : List (α × β)} {x : α} {v : β} (h : (l.map (·.1)).Nodup) : ((upd l x v).map (·.1)).Nodup := by
 rw [upd_keys]
 split
 · exact h
 · rename_i hm
   rw [List.nodup_append]
   exact ⟨h, by simp, fun a ha b hb => by simp at hb; subst hb; rintro rfl; exact hm ha⟩
end lists
section maps
variable {α β : Type} {P : Program} {kt et : TypeId} {ek : α → Value} {ev : β → Value} {ok : α → Prop} {w w0 : World} {L : List SP} {b : Nat} {l : List (α × β)} {x : α}
structure MK (P : Program) (kt : TypeId) (ek : α → Value) (ok : α → Prop) : Prop where
 law : Keyed P kt
 key : ∀ x, ok x → ∃ l, keyOf P kt (ek x) = some l
 inj : ∀ x y, ok x → ok y → ek x = ek y → x = y
structure MapOK (ek : α → Value) (ev : β → Value) (ok : α → Prop) (arr : Array MapEntry) (clock : Nat) (l : List (α × β)) : Prop where
 cells : arr.toList.map (fun e => (e.key, e.val)) = l.map (fun p => (ek p.1, ev p.2))
 keys : ∀ p ∈ l, ok p.1
 nodup : (l.map (·.1)).Nodup
 born : (arr.toList.map (·.born)).Nodup
 lt : ∀ e ∈ arr.toList, e.born < clock
def mapo (ek : α → Value) (ev : β → Value) (ok : α → Prop) (b : Nat) (l : List (α × β)) : SP := fun h => ∃ arr clock, one b (.map arr clock) h ∧ MapOK ek ev ok arr clock l
theorem At.map_open (H : At w0 (mapo ek ev ok b l :: L) w) : ∃ arr clock, MapOK ek ev ok arr clock l ∧ At w0 (one b (.map arr clock) :: L) w := by
 obtain ⟨hb, h, ⟨h1, h2, ⟨arr, clock, x, m⟩, q, r⟩, t, u⟩ := H
 exact ⟨arr, clock, m, hb, h, ⟨h1, h2, x, q, r⟩, t, u⟩
theorem At.map_close {arr : Array MapEntry} {clock : Nat} (H : At w0 (one b (.map arr clock) :: L) w) (m : MapOK ek ev ok arr clock l) : At w0 (mapo ek ev ok b l :: L) w := H.imp1 fun _ p => ⟨arr, clock, p, m⟩
theorem At.setMap {arr arr' : Array MapEntry} {clock clock' : Nat} (H : At w0 (one b (.map arr clock) :: L) w) : At w0 (one b (.map arr' clock') :: L) { w with heap := w.heap.setIfInBounds b (.map arr' clock') } := by
 have hb := H.one_heap
 have hs := MapKept.heap_set (o' := .map arr' clock') hb
 exact H.put hs.1 hs.2 rfl rfl rfl (by simp)
theorem MapOK.get {arr : Array MapEntry} {clock : Nat} (m : MapOK ek ev ok arr clock l) {j : Nat} {e : MapEntry} (he : arr[j]? = some e) : ∃ p, l[j]? = some p ∧ e.key = ek p.1 ∧ e.val = ev p.2 := by
 have h := congrArg (fun z => z[j]?) m.cells
 simp only [List.getElem?_map, Array.getElem?_toList, he, Option.map_some] at h
 cases hp : l[j]? with
 | none => rw [hp] at h; cases h
 | some p => rw [hp] at h; simp at h; exact ⟨p, rfl, h.1, h.2⟩
theorem MapOK.find {arr : Array MapEntry} {clock : Nat} (m : MapOK ek ev ok arr clock l) (M : MK P kt ek ok) (hx : ok x) (w : World) :
    (x ∉ l.map (·.1) ∧ (Instr.findKey kt (ek x) arr.toList).run P w = .ok none w) ∨ ∃ j e v, l[j]? = some (x, v) ∧ arr[j]? = some e ∧ e.key = ek x ∧ e.val = ev v ∧ (Instr.findKey kt (ek x) arr.toList).run P w = .ok (some (j, ev v)) w := by
 obtain ⟨lx, hlx⟩ := M.key x hx
 rcases M.law.find w hlx arr.toList (fun e he => by
  obtain ⟨j, hj⟩ := List.getElem?_of_mem he
  obtain ⟨p, hp, h1, _⟩ := m.get (by simpa using hj)
  rw [h1]
  exact M.key _ (m.keys _ (List.mem_of_getElem? hp))) with ⟨h1, h2⟩ | ⟨j, e, h1, h2, h3⟩
 · refine .inl ⟨fun hm => ?_, h1⟩
   obtain ⟨p, hp, rfl⟩ := List.mem_map.1 hm
   have : (ek p.1, ev p.2) ∈ l.map (fun p => (ek p.1, ev p.2)) := List.mem_map.2 ⟨p, hp, rfl⟩
   rw [← m.cells] at this
   obtain ⟨e, he, h3⟩ := List.mem_map.1 this
   exact h2 e he (by simp at h3; exact h3.1)
 · have h2' : arr[j]? = some e := by simpa using h2
   obtain ⟨p, hp, h4, h5⟩ := m.get h2'
   have : p.1 = x := M.inj _ _ (m.keys _ (List.mem_of_getElem? hp)) hx (by rw [← h4, h3])
   subst this
   exact .inr ⟨j, e, p.2, hp, h2', h4, h5, by rw [h1, h5]⟩
variable [DecidableEq α]
omit [DecidableEq α] in
theorem nodup_idx : ∀ {l : List (α × β)} {i j : Nat} {p q : α × β}, (l.map (·.1)).Nodup → l[i]? = some p → l[j]? = some q → p.1 = q.1 → i = j := by
 intro l i j p q hn hi hj e
 obtain ⟨h1, rfl⟩ := List.getElem?_eq_some_iff.1 hi
 obtain ⟨h2, rfl⟩ := List.getElem?_eq_some_iff.1 hj
 exact (List.getElem_inj (h₀ := by simpa using h1) (h₁ := by simpa using h2) hn).1 (by simpa using e)
theorem MapOK.hit {arr : Array MapEntry} {clock : Nat} (m : MapOK ek ev ok arr clock l) {j : Nat} {e : MapEntry} {v v' : β} (hl : l[j]? = some (x, v)) (ha : arr[j]? = some e) (he : e.key = ek x) :
    MapOK ek ev ok (arr.modify j fun e => { e with key := ek x, val := ev v' }) clock (upd l x v') := by
 have hm : x ∈ l.map (·.1) := List.mem_map.2 ⟨_, List.mem_of_getElem? hl, rfl⟩
 have hlen : arr.toList.length = l.length := by simpa using congrArg List.length m.cells
 refine ⟨?_, fun p hp => ?_, upd_nodup m.nodup, ?_, fun e' h => ?_⟩
 · unfold upd
   rw [if_pos hm]
   refine List.ext_getElem? fun i => ?_
   have h0 := congrArg (fun z => z[i]?) m.cells
   simp only [List.getElem?_map, Array.getElem?_toList, Array.getElem?_modify] at h0 ⊢
   by_cases hi : j = i
   · subst hi
     rw [if_pos rfl, ha, hl]
     simp
   · rw [if_neg hi, h0, Option.map_map]
     cases hp : l[i]? with
     | none => rfl
     | some p =>
      have hne : p.1 ≠ x := fun e => hi (nodup_idx m.nodup hl hp e.symm)
      simp [hne]
 · have : p.1 ∈ (upd l x v').map (·.1) := List.mem_map.2 ⟨p, hp, rfl⟩
   rw [upd_keys, if_pos hm] at this
   obtain ⟨q, hq, e⟩ := List.mem_map.1 this
   rw [← e]
   exact m.keys q hq
 · have e1 : (arr.modify j fun e => { e with key := ek x, val := ev v' }).toList.map (·.born) = arr.toList.map (·.born) := by
     refine List.ext_getElem? fun i => ?_
     simp only [List.getElem?_map, Array.getElem?_toList, Array.getElem?_modify]
     split
     · cases arr[i]? <;> rfl
     · rfl
   rw [e1]
   exact m.born
 · obtain ⟨i, hi⟩ := List.getElem?_of_mem h
   simp only [Array.getElem?_toList, Array.getElem?_modify] at hi
   split at hi
   · rw [Option.map_eq_some_iff] at hi
     obtain ⟨e2, h2, rfl⟩ := hi
     exact m.lt e2 (by simpa using Array.mem_of_getElem? h2)
   · exact m.lt e' (by simpa using Array.mem_of_getElem? hi)
theorem MapOK.new {arr : Array MapEntry} {clock : Nat} (m : MapOK ek ev ok arr clock l) {v' : β} (hx : ok x) (hl : x ∉ l.map (·.1)) :
    MapOK ek ev ok (arr.push { key := ek x, val := ev v', born := clock }) (clock + 1) (upd l x v') := by
 have hu : upd l x v' = l ++ [(x, v')] := by unfold upd; rw [if_neg hl]
 refine ⟨?_, fun p hp => ?_, upd_nodup m.nodup, ?_, fun e' h => ?_⟩
 · rw [hu, Array.toList_push, List.map_append, List.map_append, m.cells]
   rfl
 · rw [hu, List.mem_append] at hp
   rcases hp with hp | hp
   · exact m.keys p hp
   · simp at hp; subst hp; exact hx
 · rw [Array.toList_push, List.map_append, List.nodup_append]
   refine ⟨m.born, by simp, fun a ha c hc => ?_⟩
   simp at hc
   subst hc
   obtain ⟨e, he, rfl⟩ := List.mem_map.1 ha
   have := m.lt e he
   omega
 · rw [Array.toList_push, List.mem_append] at h
   rcases h with h | h
   · have := m.lt e' h; omega
   · simp at h; subst h; simp
omit [DecidableEq α] in
theorem MapOK.empty (ek : α → Value) (ev : β → Value) (ok : α → Prop) : MapOK ek ev ok #[] 0 [] := ⟨rfl, by simp, by simp, by simp, by simp⟩
section ops
variable {o : Oper} {a : Act} {K : Act → World → Prop} {Q : Exit → Act → World → Prop} {t : TypeId} {xm xk xv : Operand}
theorem run_look (M : MK P kt ek ok) (ht : P.underlying t = some (.map kt et)) {z : β} (hz : ∀ w : World, (zeroValue et).run P w = .ok (ev z) w) (H : At w0 (mapo ek ev ok b l :: L) w) (hx : ok x) (c : Bool) :
    (Instr.lookup t (.map (some b)) (ek x) c).run P w = .ok (if c then .tuple #[ev ((mlook l x).getD z), .bool (mlook l x).isSome] else ev ((mlook l x).getD z)) w := by
 obtain ⟨arr, clock, m, H⟩ := H.map_open
 obtain ⟨lx, hlx⟩ := M.key x hx
 have hg := MapKept.run_getObj_map (P := P) H.one_heap
 have hc := M.law.check w arr.isEmpty hlx
 rcases m.find M hx w with ⟨h1, h2⟩ | ⟨j, e, v, h1, h2, h3, h4, h5⟩
 · rw [mlook_none h1]
   simp [Instr.lookup, run_underlying ht, hg, hc, h2, hz, Result.andThen]
 · rw [mlook_get m.nodup h1]
   simp [Instr.lookup, run_underlying ht, hg, hc, h5, Result.andThen]
theorem run_upd (M : MK P kt ek ok) (ht : P.underlying t = some (.map kt et)) (H : At w0 (mapo ek ev ok b l :: L) w) (hx : ok x) (v : β) :
    ∃ w', (Instr.mapUpdate t (.map (some b)) (ek x) (ev v)).run P w = .ok () w' ∧ At w0 (mapo ek ev ok b (upd l x v) :: L) w' := by
 obtain ⟨arr, clock, m, H⟩ := H.map_open
 obtain ⟨lx, hlx⟩ := M.key x hx
 have hb := H.one_heap
 have hg := MapKept.run_getObj_map (P := P) hb
 have hc := M.law.check w false hlx
 rcases m.find M hx w with ⟨h1, h2⟩ | ⟨j, e, v0, h1, h2, h3, h4, h5⟩
 · refine ⟨_, ?_, H.setMap.map_close (m.new hx h1)⟩
   simp [Instr.mapUpdate, run_underlying ht, hg, hc, h2, MapKept.run_setObj_map _ hb, Result.andThen]
 · refine ⟨_, ?_, H.setMap.map_close (m.hit h1 h2 h3)⟩
   have hs := M.law.stays w hlx
   simp [Instr.mapUpdate, run_underlying ht, hg, hc, h5, h2, h3, hs, MapKept.run_setObj_map _ hb, Result.andThen]
theorem wp_upd (ho : o.op = .mapUpdate t xm xk xv) (M : MK P kt ek ok) (ht : P.underlying t = some (.map kt et)) (H : At w0 (mapo ek ev ok b l :: L) w) (hm : a.eval xm = .map (some b)) {kv vv : Value} (hk : a.eval xk = kv) (hv : a.eval xv = vv) (hkv : kv = ek x) (hx : ok x) {v : β} (hvv : vv = ev v)
    (h : ∀ w', At w0 (mapo ek ev ok b (upd l x v) :: L) w' → K (a.put o.dst undef) w') : OWp P o a w K Q := by
 subst hkv
 subst hvv
 obtain ⟨w', hr, H'⟩ := run_upd M ht H hx v
 refine owp ?_
 unfold Oper.wp execOp
 simp only [ho, hm, hk, hv, Sem.run_bind, hr, Result.andThen_ok, Sem.run_pure]
 exact h w' H'
theorem wp_mkmap (ho : o.op = .makeMap t none) (H : At w0 L w) (h : ∀ b w', At w0 (mapo ek ev ok b [] :: L) w' → K (a.put o.dst (.map (some b))) w') : OWp P o a w K Q := by
 refine owp ?_
 unfold Oper.wp execOp
 simp only [ho, Option.map_none, Sem.run_bind, Result.andThen_ok, Sem.run_pure, show ∀ w : World, (Instr.makeMap t none).run P w = .ok (.map (some w.heap.size)) (w.alloc (.map #[] 0)) from fun _ => rfl]
 exact h _ _ ((H.alloc _).map_close (MapOK.empty ek ev ok))
end ops
end maps
end Go.Hg
