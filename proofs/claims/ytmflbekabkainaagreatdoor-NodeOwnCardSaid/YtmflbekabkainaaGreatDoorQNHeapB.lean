import Derived.Test.YtmflbekabkainaaGreatDoorQNHeapA
set_option linter.unusedVariables false
set_option linter.unusedSimpArgs false
namespace Go.Proofs.YtmflbekabkainaaGreatDoor
open Go.RowKit Go.Hg
theorem index0 (x y : Int) (w : World) : (Instr.index 205 (.agg #[.int .i64 x, .int .i64 y]) (.int .i64 0)).run Tryz.prog w = .ok (.int .i64 x) w := by kernel_rfl
theorem index1 (x y : Int) (w : World) : (Instr.index 205 (.agg #[.int .i64 x, .int .i64 y]) (.int .i64 1)).run Tryz.prog w = .ok (.int .i64 y) w := by kernel_rfl
theorem lt_trans {a b c : Thing} (h1 : lt a b) (h2 : lt b c) : lt a c := by unfold lt at *; omega
def KidR (l : List Thing) (j c m : Nat) : Prop := (m = j ∨ (m < l.length ∧ (m - 1) / 2 = j ∧ 0 < m ∧ lt (g l m) (g l j))) ∧ ∀ k, k < c → 2 * j + 1 + k < l.length → le (g l m) (g l (2 * j + 1 + k))
theorem KidR.next {l : List Thing} {j c m : Nat} (h : KidR l j c m) (hc : c < 2) (hk : 2 * j + 1 + c < l.length) (hlt : lt (g l (2 * j + 1 + c)) (g l m)) : KidR l j (c + 1) (2 * j + 1 + c) := by
 refine ⟨.inr ⟨hk, by omega, by omega, ?_⟩, fun k h1 h2 => ?_⟩
 · rcases h.1 with rfl | h1
   · exact hlt
   · exact lt_trans hlt h1.2.2.2
 · by_cases e : k = c
   · subst e; exact le_refl _
   · exact le_trans (le_of_lt hlt) (h.2 k (by omega) h2)
theorem KidR.keep {l : List Thing} {j c m : Nat} (h : KidR l j c m) (hlt : 2 * j + 1 + c < l.length → ¬ lt (g l (2 * j + 1 + c)) (g l m)) : KidR l j (c + 1) m :=
 ⟨h.1, fun k h1 h2 => by
  by_cases e : k = c
  · subst e; exact hlt h2
  · exact h.2 k (by omega) h2⟩
theorem KidR.stop {l : List Thing} {j m : Nat} (h : KidR l j 2 m) (hD : DownOK l j) (e : m = j) : HeapOK l := by
 subst e
 exact hD.stop (fun h1 => h.2 0 (by omega) h1) (fun h1 => h.2 1 (by omega) h1)
theorem KidR.step {l : List Thing} {j m : Nat} (h : KidR l j 2 m) (hD : DownOK l j) (e : m ≠ j) : j < l.length ∧ m < l.length ∧ j < m ∧ DownOK (sw l j m) m := by
 obtain ⟨h1, h2, h3, h4⟩ := h.1.resolve_left e
 refine ⟨by omega, h1, by omega, hD.step h1 h2 h3 h4 fun k k0 hk hp => ?_⟩
 rcases (by omega : k = 2 * j + 1 + 0 ∨ k = 2 * j + 1 + 1) with rfl | rfl
 · exact h.2 0 (by omega) hk
 · exact h.2 1 (by omega) hk
def DownRW (w0 : World) (L : List SP) (p : Nat) (most nx : Int) (a : Option Addr) (cap : Nat) (l0 : List Thing) (j : Nat) (l : List Thing) (w : World) : Prop :=
 l.length = l0.length ∧ l.Perm l0 ∧ DownOK l j ∧ At w0 (raw p #[.int .i64 most, .slice a l.length cap, .int .u64 nx] 128 :: lrow 167 652 thW (.slice a l.length cap) l :: L) w
set_option maxRecDepth 10000 in
set_option maxHeartbeats 2000000 in
theorem downW_c {w0 w : World} {L : List SP} {p : Nat} {most nx : Int} {a : Option Addr} {cap : Nat} {l0 : List Thing}
    (H : At w0 (hdW p most nx a l0.length cap :: lrow 167 652 thW (.slice a l0.length cap) l0 :: L) w) (hl : l0.length ≤ 1000000) (hU : DownOK l0 0) :
    Calls Tryz.prog 71 #[.pointer (some ⟨p, 0, none⟩), .int .i64 0] w fun e w' => ∃ v l, e = .returned v ∧ l.Perm l0 ∧ HeapOK l ∧ At w0 (hdW p most nx a l.length cap :: lrow 167 652 thW (.slice a l.length cap) l :: L) w' := by
 unfold hdW at H ⊢
 go_enter Tryz.func71, Tryz.ntmps71
 go_wp2_with fail
 go_loopw [1] (fun i wr => ∃ (j : Nat) (l : List Thing), i = .int .i64 j ∧ (j ≤ l0.length) ∧ DownRW w0 L p most nx a cap l0 j l wr) (fun i _ => l0.length - (intOf i).toNat)
 case atStart => exact ⟨0, l0, rfl, by omega, rfl, List.Perm.refl _, hU, H⟩
 case round =>
  clear H hU
  obtain ⟨j, l, rfl, hj, hll, hp, hU, H⟩ := hrel
  have HU := Lib.hid hU
  have HP := Lib.hid hp
  have HLL := Lib.hid hll
  have hj6 : (j : Int) ≤ 1000000 := by omega
  clear hU hp hll
  go_wp2_with fail
  go_loopw [4, 15] (fun m c wr => ∃ mm cc : Nat, m = .int .i64 mm ∧ c = .int .i64 cc ∧ cc ≤ 2 ∧ KidR l j cc mm ∧ DownRW w0 L p most nx a cap l0 j l wr) (fun _ c _ => 2 - (intOf c).toNat)
  case atStart => exact ⟨j, 0, rfl, rfl, by omega, ⟨.inl rfl, fun k h => absurd h (by omega)⟩, HLL.out, HP.out, HU.out, H⟩
  case round =>
   clear H
   obtain ⟨m, c, rfl, rfl, hc, hK2, hx1, hx2, hx3, H⟩ := hrel
   clear hx1 hx2 hx3
   have HK := Lib.hid hK2
   clear hK2
   rcases (by omega : c = 0 ∨ c = 1 ∨ c = 2) with rfl | rfl | rfl
   · obtain ⟨kd, hkd⟩ : ∃ kd : Nat, kd = 2 * j + 1 + 0 := ⟨_, rfl⟩
     have HKD := Lib.hid hkd
     have hkd2 : 2 * (j : Int) + 1 = (kd : Int) := by omega
     clear hkd
     have hix0 := index0
     have hix1 := index1
     go_wp2_with fail
     clear hix0 hix1
     clear hkd2
     by_cases hlt : kd < l.length
     · have hmj : m < l.length := by
         rcases HK.out.1 with e | e
         · have := HKD.out; omega
         · exact e.1
       obtain ⟨gb, ob, rfl⟩ := lrow_place H 1 rfl (by omega)
       have Hk := Lib.hid (g_get hlt)
       have Hm := Lib.hid (g_get hmj)
       refine wpL_begin 24 (At w0 (raw p #[.int .i64 most, .slice (some ⟨gb, ob, none⟩) l.length cap, .int .u64 nx] 128 :: lrow 167 652 thW (.slice (some ⟨gb, ob, none⟩) l.length cap) l :: L)) [(0, true), (1, true), (2, true), (3, true), (4, true), (5, true), (6, true), (7, true), (8, true), (9, true), (10, true), (11, true), (12, true), (13, true), (14, true), (15, true), (16, true), (17, true), (18, true), (19, true), (20, true), (21, true), (22, false), (23, true)] rfl (by kernel_rfl) (by kernel_rfl) ((H.drew)) ?_
       intro ops hOps hS
       replace H := H.drew
       iterate 4 refine fl hOps hS ?_
       refine tl hOps hS (fun w hw => raw_at (At.heap hw 0 rfl) rfl) ?_
       iterate 2 refine fl hOps hS ?_
       first | rw [show decide (kd < l.length) = true from decide_eq_true hlt] | skip
       iterate 4 refine fl hOps hS ?_
       refine tl hOps hS (fun w hw => raw_at (At.heap hw 0 rfl) rfl) ?_
       iterate 2 refine fl hOps hS ?_
       refine wpL_take hOps hS rfl (fun _ _ _ h => h) (yl_mid rfl _ _ rfl rfl (thW (g l kd)) (by kernel_rfl) (sz_thW _) (fun w hw => lrow_at el_thW hw 1 rfl Hk.out)) ?_
       simp only [nrm]
       iterate 3 refine fl hOps hS ?_
       refine tl hOps hS (fun w hw => raw_at (At.heap hw 0 rfl) rfl) ?_
       iterate 2 refine fl hOps hS ?_
       refine wpL_take hOps hS rfl (fun _ _ _ h => h) (yl_mid rfl _ _ rfl rfl (thW (g l m)) (by kernel_rfl) (sz_thW _) (fun w hw => lrow_at el_thW hw 1 rfl Hm.out)) ?_
       simp only [nrm]
       refine wpL_next hOps rfl rfl ?_
       intro K hK
       refine wp_call _ _ _ rfl Tryz.func103 rfl (by kernel_rfl) ?_
       simp only [List.map_toArray, List.map_cons, List.map_nil, Act.eval, Array.getD_eq_getD_getElem?, List.getElem?_toArray, List.getElem?_cons_zero, List.getElem?_cons_succ, Option.getD_some]
       refine (lessW_c H _ _).mono ?_; rintro e w' ⟨rfl, H⟩
       have hS := (H)
       refine hK _ _ hS ?_
       clear hK K
       simp only [nrm]
       by_cases hl2 : lt (g l kd) (g l m)
       · rw [decide_eq_true hl2]
         refine fl hOps hS ?_
         refine wpL_end ?_
         clear hOps hS ops
         go_wp2
         go_roundw
         case rel => exact ⟨kd, 0 + 1, rfl, by go_num, by omega, HKD.out ▸ HK.out.next (by omega) (HKD.out ▸ hlt) (HKD.out ▸ hl2), HLL.out, HP.out, HU.out, H⟩
         case measure => simp [intOf]
       · rw [decide_eq_false hl2]
         refine fl hOps hS ?_
         refine wpL_end ?_
         clear hOps hS ops
         go_wp2
         go_roundw
         case rel => exact ⟨m, 0 + 1, rfl, by go_num, by omega, HK.out.keep (fun _ => HKD.out ▸ hl2), HLL.out, HP.out, HU.out, H⟩
         case measure => simp [intOf]
     · refine wpL_begin 24 (At w0 (raw p #[.int .i64 most, .slice a l.length cap, .int .u64 nx] 128 :: lrow 167 652 thW (.slice a l.length cap) l :: L)) [(0, true), (1, true), (2, true), (3, true), (4, true), (5, true), (6, true), (7, true), (8, true), (9, true), (10, true), (11, true), (12, true), (13, true), (14, true), (15, true), (16, true), (17, true), (18, true), (19, true), (20, true), (21, true), (22, false), (23, true)] rfl (by kernel_rfl) (by kernel_rfl) ((H.drew)) ?_
       intro ops hOps hS
       replace H := H.drew
       iterate 4 refine fl hOps hS ?_
       refine tl hOps hS (fun w hw => raw_at (At.heap hw 0 rfl) rfl) ?_
       iterate 2 refine fl hOps hS ?_
       first | rw [show decide (kd < l.length) = false from decide_eq_false hlt] | skip
       refine fl hOps hS ?_
       refine wpL_take hOps hS rfl (fun _ _ _ h => h) (yn rfl) ?_
       simp only [nrm]
       refine wpL_take hOps hS rfl (fun _ _ _ h => h) (yn rfl) ?_
       simp only [nrm]
       refine wpL_take hOps hS rfl (fun _ _ _ h => h) (yn rfl) ?_
       simp only [nrm]
       refine wpL_take hOps hS rfl (fun _ _ _ h => h) (yn rfl) ?_
       simp only [nrm]
       refine wpL_take hOps hS rfl (fun _ _ _ h => h) (yn rfl) ?_
       simp only [nrm]
       refine wpL_take hOps hS rfl (fun _ _ _ h => h) (yn rfl) ?_
       simp only [nrm]
       refine wpL_take hOps hS rfl (fun _ _ _ h => h) (yn rfl) ?_
       simp only [nrm]
       refine wpL_take hOps hS rfl (fun _ _ _ h => h) (yn rfl) ?_
       simp only [nrm]
       refine wpL_take hOps hS rfl (fun _ _ _ h => h) (yn rfl) ?_
       simp only [nrm]
       refine wpL_take hOps hS rfl (fun _ _ _ h => h) (yn rfl) ?_
       simp only [nrm]
       refine wpL_take hOps hS rfl (fun _ _ _ h => h) (yn rfl) ?_
       simp only [nrm]
       refine wpL_take hOps hS rfl (fun _ _ _ h => h) (yn rfl) ?_
       simp only [nrm]
       refine wpL_take hOps hS rfl (fun _ _ _ h => h) (yn rfl) ?_
       simp only [nrm]
       refine wpL_take hOps hS rfl (fun _ _ _ h => h) (yn rfl) ?_
       simp only [nrm]
       refine wpL_skip hOps hS rfl rfl ?_
       simp only [nrm]
       refine fl hOps hS ?_
       refine wpL_end ?_
       clear hOps hS ops
       go_wp2
       go_roundw
       case rel => exact ⟨m, 0 + 1, rfl, by go_num, by omega, HK.out.keep (fun h => absurd (HKD.out ▸ h) hlt), HLL.out, HP.out, HU.out, H⟩
       case measure => simp [intOf]
   · obtain ⟨kd, hkd⟩ : ∃ kd : Nat, kd = 2 * j + 1 + 1 := ⟨_, rfl⟩
     have HKD := Lib.hid hkd
     have hkd2 : 2 * (j : Int) + 2 = (kd : Int) := by omega
     clear hkd
     have hix0 := index0
     have hix1 := index1
     go_wp2_with fail
     clear hix0 hix1
     clear hkd2
     by_cases hlt : kd < l.length
     · have hmj : m < l.length := by
         rcases HK.out.1 with e | e
         · have := HKD.out; omega
         · exact e.1
       obtain ⟨gb, ob, rfl⟩ := lrow_place H 1 rfl (by omega)
       have Hk := Lib.hid (g_get hlt)
       have Hm := Lib.hid (g_get hmj)
       refine wpL_begin 24 (At w0 (raw p #[.int .i64 most, .slice (some ⟨gb, ob, none⟩) l.length cap, .int .u64 nx] 128 :: lrow 167 652 thW (.slice (some ⟨gb, ob, none⟩) l.length cap) l :: L)) [(0, true), (1, true), (2, true), (3, true), (4, true), (5, true), (6, true), (7, true), (8, true), (9, true), (10, true), (11, true), (12, true), (13, true), (14, true), (15, true), (16, true), (17, true), (18, true), (19, true), (20, true), (21, true), (22, false), (23, true)] rfl (by kernel_rfl) (by kernel_rfl) ((H.drew)) ?_
       intro ops hOps hS
       replace H := H.drew
       iterate 4 refine fl hOps hS ?_
       refine tl hOps hS (fun w hw => raw_at (At.heap hw 0 rfl) rfl) ?_
       iterate 2 refine fl hOps hS ?_
       first | rw [show decide (kd < l.length) = true from decide_eq_true hlt] | skip
       iterate 4 refine fl hOps hS ?_
       refine tl hOps hS (fun w hw => raw_at (At.heap hw 0 rfl) rfl) ?_
       iterate 2 refine fl hOps hS ?_
       refine wpL_take hOps hS rfl (fun _ _ _ h => h) (yl_mid rfl _ _ rfl rfl (thW (g l kd)) (by kernel_rfl) (sz_thW _) (fun w hw => lrow_at el_thW hw 1 rfl Hk.out)) ?_
       simp only [nrm]
       iterate 3 refine fl hOps hS ?_
       refine tl hOps hS (fun w hw => raw_at (At.heap hw 0 rfl) rfl) ?_
       iterate 2 refine fl hOps hS ?_
       refine wpL_take hOps hS rfl (fun _ _ _ h => h) (yl_mid rfl _ _ rfl rfl (thW (g l m)) (by kernel_rfl) (sz_thW _) (fun w hw => lrow_at el_thW hw 1 rfl Hm.out)) ?_
       simp only [nrm]
       refine wpL_next hOps rfl rfl ?_
       intro K hK
       refine wp_call _ _ _ rfl Tryz.func103 rfl (by kernel_rfl) ?_
       simp only [List.map_toArray, List.map_cons, List.map_nil, Act.eval, Array.getD_eq_getD_getElem?, List.getElem?_toArray, List.getElem?_cons_zero, List.getElem?_cons_succ, Option.getD_some]
       refine (lessW_c H _ _).mono ?_; rintro e w' ⟨rfl, H⟩
       have hS := (H)
       refine hK _ _ hS ?_
       clear hK K
       simp only [nrm]
       by_cases hl2 : lt (g l kd) (g l m)
       · rw [decide_eq_true hl2]
         refine fl hOps hS ?_
         refine wpL_end ?_
         clear hOps hS ops
         go_wp2
         go_roundw
         case rel => exact ⟨kd, 1 + 1, rfl, by go_num, by omega, HKD.out ▸ HK.out.next (by omega) (HKD.out ▸ hlt) (HKD.out ▸ hl2), HLL.out, HP.out, HU.out, H⟩
         case measure => simp [intOf]
       · rw [decide_eq_false hl2]
         refine fl hOps hS ?_
         refine wpL_end ?_
         clear hOps hS ops
         go_wp2
         go_roundw
         case rel => exact ⟨m, 1 + 1, rfl, by go_num, by omega, HK.out.keep (fun _ => HKD.out ▸ hl2), HLL.out, HP.out, HU.out, H⟩
         case measure => simp [intOf]
     · refine wpL_begin 24 (At w0 (raw p #[.int .i64 most, .slice a l.length cap, .int .u64 nx] 128 :: lrow 167 652 thW (.slice a l.length cap) l :: L)) [(0, true), (1, true), (2, true), (3, true), (4, true), (5, true), (6, true), (7, true), (8, true), (9, true), (10, true), (11, true), (12, true), (13, true), (14, true), (15, true), (16, true), (17, true), (18, true), (19, true), (20, true), (21, true), (22, false), (23, true)] rfl (by kernel_rfl) (by kernel_rfl) ((H.drew)) ?_
       intro ops hOps hS
       replace H := H.drew
       iterate 4 refine fl hOps hS ?_
       refine tl hOps hS (fun w hw => raw_at (At.heap hw 0 rfl) rfl) ?_
       iterate 2 refine fl hOps hS ?_
       first | rw [show decide (kd < l.length) = false from decide_eq_false hlt] | skip
       refine fl hOps hS ?_
       refine wpL_take hOps hS rfl (fun _ _ _ h => h) (yn rfl) ?_
       simp only [nrm]
       refine wpL_take hOps hS rfl (fun _ _ _ h => h) (yn rfl) ?_
       simp only [nrm]
       refine wpL_take hOps hS rfl (fun _ _ _ h => h) (yn rfl) ?_
       simp only [nrm]
       refine wpL_take hOps hS rfl (fun _ _ _ h => h) (yn rfl) ?_
       simp only [nrm]
       refine wpL_take hOps hS rfl (fun _ _ _ h => h) (yn rfl) ?_
       simp only [nrm]
       refine wpL_take hOps hS rfl (fun _ _ _ h => h) (yn rfl) ?_
       simp only [nrm]
       refine wpL_take hOps hS rfl (fun _ _ _ h => h) (yn rfl) ?_
       simp only [nrm]
       refine wpL_take hOps hS rfl (fun _ _ _ h => h) (yn rfl) ?_
       simp only [nrm]
       refine wpL_take hOps hS rfl (fun _ _ _ h => h) (yn rfl) ?_
       simp only [nrm]
       refine wpL_take hOps hS rfl (fun _ _ _ h => h) (yn rfl) ?_
       simp only [nrm]
       refine wpL_take hOps hS rfl (fun _ _ _ h => h) (yn rfl) ?_
       simp only [nrm]
       refine wpL_take hOps hS rfl (fun _ _ _ h => h) (yn rfl) ?_
       simp only [nrm]
       refine wpL_take hOps hS rfl (fun _ _ _ h => h) (yn rfl) ?_
       simp only [nrm]
       refine wpL_take hOps hS rfl (fun _ _ _ h => h) (yn rfl) ?_
       simp only [nrm]
       refine wpL_skip hOps hS rfl rfl ?_
       simp only [nrm]
       refine fl hOps hS ?_
       refine wpL_end ?_
       clear hOps hS ops
       go_wp2
       go_roundw
       case rel => exact ⟨m, 1 + 1, rfl, by go_num, by omega, HK.out.keep (fun h => absurd (HKD.out ▸ h) hlt), HLL.out, HP.out, HU.out, H⟩
       case measure => simp [intOf]
   · by_cases he : m = j
     · have HS := Lib.hid (HK.out.stop HU.out he)
       subst he
       go_wp2_with fail
       first | go_ret | go_end0 | (refine bodyPost_ret (results_none rfl _ _ _) rfl ?_)
       exact ⟨_, l, rfl, HP.out, HS.out, H⟩
     · obtain ⟨hs1, hs2, hs3, hs4⟩ := HK.out.step HU.out he
       have HS := Lib.hid hs4
       have he2 : ¬ (m : Int) = (j : Int) := by omega
       clear hs4 he
       go_wp2_with fail
       refine (swapW_c H j m (by omega) (by omega)).mono ?_; rintro e w' ⟨v, rfl, H⟩
       go_wp2
       go_roundw
       case rel => exact ⟨m, sw l j m, rfl, by have := HLL.out; omega, by rw [sw_length]; exact HLL.out, (sw_perm hs1 hs2).trans HP.out, HS.out, H⟩
       case measure => have := HLL.out; simp [intOf]; omega
def heapW (p : Nat) (most nx : Int) (S : List Thing) : SP := fun h => ∃ a cap l, (HeapOK l ∧ l.Perm S) ∧ seps [hdW p most nx a l.length cap, lrow 167 652 thW (.slice a l.length cap) l] h
theorem heapW_open {w0 w : World} {F : List SP} {p : Nat} {most nx : Int} {S : List Thing} (H : At w0 (heapW p most nx S :: F) w) : ∃ a cap l, HeapOK l ∧ l.Perm S ∧ At w0 (hdW p most nx a l.length cap :: lrow 167 652 thW (.slice a l.length cap) l :: F) w := by
 obtain ⟨b, h, ⟨h1, h2, ⟨a, c, l, e, s⟩, q', r⟩, t, u⟩ := H
 exact ⟨a, c, l, e.1, e.2, b, h, seps_join [hdW p most nx a l.length c, lrow 167 652 thW (.slice a l.length c) l] h ⟨h1, h2, s, q', r⟩, t, u⟩
theorem heapW_shut {w0 w : World} {F : List SP} {p : Nat} {most nx : Int} {S l : List Thing} {a : Option Addr} {cap : Nat} (ho : HeapOK l) (hp : l.Perm S) (H : At w0 (hdW p most nx a l.length cap :: lrow 167 652 thW (.slice a l.length cap) l :: F) w) : At w0 (heapW p most nx S :: F) w :=
 H.imp fun h s => sep_mono (seps_split [hdW p most nx a l.length cap, lrow 167 652 thW (.slice a l.length cap) l] h s) (fun _ s => ⟨a, cap, l, ⟨ho, hp⟩, s⟩) (fun _ s => s)
attribute [irreducible] heapW
set_option maxRecDepth 10000 in
set_option maxHeartbeats 400000 in
theorem lenW_c {w0 w : World} {F : List SP} {p : Nat} {most nx : Int} {S : List Thing} (H : At w0 (heapW p most nx S :: F) w) :
    Calls Tryz.prog 46 #[.pointer (some ⟨p, 0, none⟩)] w fun e w' => e = .returned (.int .i64 S.length) ∧ w = w' := by
 obtain ⟨a, cap, l, ho, hp, H2⟩ := heapW_open H
 unfold hdW at H2
 have hc : w.cell? ⟨p, 1, none⟩ = some (.slice a l.length cap) := raw_at (H2.heap 0 rfl) rfl
 have HE := Lib.hid hp.length_eq
 clear hp ho
 go_enter Tryz.func46, Tryz.ntmps46
 go_wp2
 go_ret
 exact ⟨by rw [← HE.out]; rfl, rfl⟩
set_option maxRecDepth 10000 in
set_option maxHeartbeats 400000 in
theorem nextW_none {w0 w : World} {F : List SP} {p : Nat} {most nx : Int} {S : List Thing} (H : At w0 (heapW p most nx S :: F) w) (h0 : S.length = 0) :
    Calls Tryz.prog 69 #[.pointer (some ⟨p, 0, none⟩)] w fun e w' => e = .returned (.tuple #[.int .u64 0, .bool false]) ∧ w = w' := by
 obtain ⟨a, cap, l, ho, hp, H2⟩ := heapW_open H
 unfold hdW at H2
 have hc : w.cell? ⟨p, 1, none⟩ = some (.slice a l.length cap) := raw_at (H2.heap 0 rfl) rfl
 have hl : l.length = 0 := hp.length_eq.trans h0
 rw [hl] at hc
 clear hp ho hl
 go_enter Tryz.func69, Tryz.ntmps69
 go_wp2
 go_ret2
 exact ⟨rfl, rfl⟩
set_option maxRecDepth 10000 in
set_option maxHeartbeats 400000 in
theorem newW_c {w0 w : World} {F : List SP} (H : At w0 F w) (z : Int) :
    Calls Tryz.prog 29 #[.int .i64 z] w fun e w' => ∃ p, e = .returned (.pointer (some ⟨p, 0, none⟩)) ∧ At w0 (heapW p (max z 1) 0 [] :: F) w' := by
 have hempty : HeapOK [] := fun j _ h => absurd h (by simp)
 by_cases hz : z < 1
 · rw [show max z 1 = 1 by omega]
   go_enter Tryz.func29, Tryz.ntmps29
   go_wp2_with ((with_reducible refine wpList_op rfl ?_); intro _ hK; refine wp_box_sl (v := .agg #[.int .i64 1, .slice none 0 0, .int .u64 0]) 128 _ rfl rfl H (fun p w' (H : At w0 (raw p #[.int .i64 1, .slice none 0 0, .int .u64 0] 128 :: F) w') _ => hK _ _ ?_))
   go_ret
   exact ⟨p, rfl, heapW_shut hempty (List.Perm.refl _) (a := none) (cap := 0) ((lrow_nil H thW 167 652).pull 1 rfl)⟩
 · rw [show max z 1 = z by omega]
   go_enter Tryz.func29, Tryz.ntmps29
   go_wp2_with ((with_reducible refine wpList_op rfl ?_); intro _ hK; refine wp_box_sl (v := .agg #[.int .i64 z, .slice none 0 0, .int .u64 0]) 128 _ rfl rfl H (fun p w' (H : At w0 (raw p #[.int .i64 z, .slice none 0 0, .int .u64 0] 128 :: F) w') _ => hK _ _ ?_))
   go_ret
   exact ⟨p, rfl, heapW_shut hempty (List.Perm.refl _) (a := none) (cap := 0) ((lrow_nil H thW 167 652).pull 1 rfl)⟩
set_option maxRecDepth 10000 in
set_option maxHeartbeats 400000 in
theorem nextW_open {w0 w : World} {F : List SP} {p : Nat} {most nx : Int} {a : Option Addr} {cap : Nat} {l : List Thing} (H2 : At w0 (hdW p most nx a l.length cap :: lrow 167 652 thW (.slice a l.length cap) l :: F) w) (hl : 0 < l.length) :
    Calls Tryz.prog 69 #[.pointer (some ⟨p, 0, none⟩)] w fun e w' => e = .returned (.tuple #[.int .u64 (g l 0).1, .bool true]) ∧ w = w' := by
 unfold hdW at H2
 have hl2 : ¬ (l.length : Int) = 0 := by omega
 obtain ⟨gb, ob, rfl⟩ := lrow_place H2 1 rfl hl
 have hc : w.cell? ⟨p, 1, none⟩ = some (.slice (some ⟨gb, ob, none⟩) l.length cap) := raw_at (H2.heap 0 rfl) rfl
 have hg := g_get hl
 have hb : w.cell? ⟨gb, ob, none⟩ = some (.int .u64 (g l 0).1) := by simpa using lrow_cell el_thW (j := 0) H2 1 rfl hg rfl
 clear hg
 go_enter Tryz.func69, Tryz.ntmps69
 go_wp2
 go_ret2
 exact ⟨rfl, rfl⟩
end Go.Proofs.YtmflbekabkainaaGreatDoor
