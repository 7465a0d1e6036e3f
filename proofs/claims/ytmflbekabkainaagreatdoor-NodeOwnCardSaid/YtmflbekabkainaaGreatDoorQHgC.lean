import Derived.Test.YtmflbekabkainaaGreatDoorQHgB
import Derived.Great.BuildSlice
import Derived.Laws.Cover3
import Derived.Laws.IdiomStrings
import Derived.DeepKeys
import Derived.Lib.AppendZerosOnto
import Derived.Test.YtmflbekabkainaaGreatDoorQHgA
import Derived.Laws.Strings
import Derived.Laws.Slices
import Derived.Great.FillDense
set_option linter.unusedVariables false
namespace Go.Hg
open Go.RowKit
def SeeL {α : Type} (size : Nat) (c : α → List Value) (w0 : World) (F : List SP) (v : Value) (xs : List α) : Prop :=
 ∃ a cap b off, v = .slice a xs.length cap ∧ xs.length ≤ cap ∧ (0 < xs.length → a = some ⟨b, off, none⟩) ∧ ((a = none → cap = 0) ∧ ∀ x, a = some x → cap = 0 ∨ x = ⟨b, off, none⟩) ∧ ∀ w', At w0 F w' → w'.rangeAt b off (cl c xs)
abbrev SeeB := SeeL 1 c8
section
variable {α : Type} {size by_ : Nat} {c : α → List Value} {w0 w : World} {F G : List SP} {v : Value} {xs ys : List α} {P : Program} {e t : TypeId}
theorem SeeL.mono (h : SeeL size c w0 F v xs) (f : ∀ h, seps G h → seps F h) : SeeL size c w0 G v xs := by
 obtain ⟨a, cap, b, off, h1, h2, h3, h5, h4⟩ := h
 exact ⟨a, cap, b, off, h1, h2, h3, h5, fun w' H => h4 w' (H.imp f)⟩
theorem SeeL.more (h : SeeL size c w0 F v xs) (X : SP) : SeeL size c w0 (X :: F) v xs := h.mono fun _ s => sep_tail s
theorem SeeL.weak (h : SeeL size c w0 F v xs) (s : F.Sublist G) : SeeL size c w0 G v xs := h.mono (seps_pick G F s)
theorem SeeL.perm (h : SeeL size c w0 F v xs) (p : G.Perm F) : SeeL size c w0 G v xs := h.mono (seps_perm p)
theorem SeeL.slice (h : SeeL size c w0 F v xs) : ∃ a cap, v = .slice a xs.length cap ∧ xs.length ≤ cap ∧ (0 < xs.length → ∃ b off, a = some ⟨b, off, none⟩) := by
 obtain ⟨a, cap, b, off, h1, h2, h3, h5, h4⟩ := h
 exact ⟨a, cap, h1, h2, fun h0 => ⟨b, off, h3 h0⟩⟩
theorem SeeL.one (h : SeeL size c w0 F v xs) : v.oneCell' = true := by
 obtain ⟨a, cap, b, off, h1, _⟩ := h
 rw [h1]; rfl
theorem SeeL.cells (H : At w0 F w) {a : Option Addr} {n cap : Nat} (h : SeeL size c w0 F (.slice a n cap) xs) : n = xs.length ∧ n ≤ cap ∧ (a = none → cap = 0) ∧ (0 < n → ∃ b off, a = some ⟨b, off, none⟩) ∧ ∀ b off, a = some ⟨b, off, none⟩ → w.rangeAt b off (cl c xs) := by
 obtain ⟨a', cap', b, off, h1, h2, h3, h5, h4⟩ := h
 cases h1
 refine ⟨rfl, h2, h5.1, fun h0 => ⟨b, off, h3 h0⟩, fun b' off' e => ?_⟩
 rcases h5.2 _ e with h0 | this
 · have : xs = [] := List.eq_nil_of_length_eq_zero (by omega)
   subst this
   exact fun j u hj => by simp [cl] at hj
 cases this
 exact h4 w H
theorem SeeL.elem (E : El P e size by_ c) (H : At w0 F w) {b off n cap i : Nat} {x : α} (h : SeeL size c w0 F (.slice (some ⟨b, off, none⟩) n cap) xs) (hx : xs[i]? = some x) : w.rangeAt b (off + i * size) (c x) := by
 obtain ⟨_, _, _, _, hr⟩ := h.cells H
 intro j u hj
 have hlt := (List.getElem?_eq_some_iff.1 hj).1
 rw [E.len] at hlt
 rw [← E.cl_elem hx] at hj
 unfold Hg.elem at hj
 rw [List.getElem?_take, if_pos hlt, List.getElem?_drop] at hj
 rw [Nat.add_assoc]
 exact hr _ _ rfl _ _ hj
theorem SeeL.cell (E : El P e size by_ c) (H : At w0 F w) {b off n cap i j : Nat} {x : α} {u : Value} (h : SeeL size c w0 F (.slice (some ⟨b, off, none⟩) n cap) xs) (hx : xs[i]? = some x) (hj : (c x)[j]? = some u) : w.cell? ⟨b, off + i * size + j, none⟩ = some u :=
 h.elem E H hx j u hj
theorem see_own (E : El P e size by_ c) (H : At w0 F w) (q : Nat) {a : Option Addr} {n cap : Nat} (hn : n = xs.length) (hk : F[q]? = some (lrow e size c (.slice a n cap) xs)) : SeeL size c w0 F (.slice a n cap) xs := by
 subst hn
 have h := H.pull q hk
 unfold lrow at h
 rcases At.rows_value h with ⟨h1, h2, h3⟩ | ⟨g, off, cap', h1, h2, h3, _⟩
 · have hx : xs = [] := List.eq_nil_of_length_eq_zero h2
   subst hx
   cases h1
   exact ⟨none, 0, 0, 0, rfl, Nat.le_refl _, fun h => absurd h (by simp), ⟨(fun _ => rfl), (fun x e => by cases e)⟩, fun w' _ j u hj => by simp [cl] at hj⟩
 · cases h1
   refine ⟨some ⟨g, off, none⟩, cap, g, off, rfl, h2, fun _ => rfl, ⟨(fun e => by cases e), (fun x e => by cases e; exact .inr rfl)⟩, fun w' H' j u hj => ?_⟩
   have h' := H'.pull q hk
   unfold lrow at h'
   rcases At.rows_value h' with ⟨h1, _⟩ | ⟨g', off', cap', h1, _, _, h4⟩
   · cases h1
   · cases h1
     have hlt := (List.getElem?_eq_some_iff.1 hj).1
     rw [E.cl_length] at hlt
     rw [h4 j hlt]
     exact hj
theorem see_raw (q : Nat) {b off cap : Nat} {cs : List Value} {t : TypeId} (hk : F[q]? = some (raw b cs.toArray t)) (hcap : xs.length ≤ cap) (hc : (cs.drop off).take (cl c xs).length = cl c xs) : SeeL size c w0 F (.slice (some ⟨b, off, none⟩) xs.length cap) xs := by
 refine ⟨_, cap, b, off, rfl, hcap, fun _ => rfl, ⟨(fun e => by cases e), (fun x e => by cases e; exact .inr rfl)⟩, fun w' H j u hj => ?_⟩
 rw [raw_cell (H.heap q hk), List.getElem?_toArray]
 rw [← hc, List.getElem?_take] at hj
 split at hj
 · rwa [List.getElem?_drop] at hj
 · cases hj
theorem SeeL.src (E : El P e size by_ c) (H : At w0 F w) (h : SeeL size c w0 F v xs) : Src P size w v xs.length (cl c xs) := by
 obtain ⟨a, cap, b, off, rfl, h2, h3, h5, h4⟩ := h
 by_cases h0 : 0 < xs.length
 · rw [h3 h0]
   refine Src.some (E.cl_length xs) (fun j u hj => ?_) (E.one_cl xs)
   rw [Addr.add_lit]
   exact h4 w H j u hj
 · have hx : xs = [] := List.eq_nil_of_length_eq_zero (by omega)
   subst hx
   cases a with
   | none => exact ⟨fun wx => by simp [Builtin.lenOf], by simp [cl], fun wx _ => by simp [Builtin.firstCells, cl], by simp [cl]⟩
   | some a => exact lrow_src_zero a cap
theorem SeeL.part (E : El P e size by_ c) (ht : P.underlying t = some (.slice e)) {a : Option Addr} {n cap : Nat} (h : SeeL size c w0 F (.slice a n cap) xs) {l q : Nat} (hl : l ≤ q) (hq : q ≤ xs.length) : SeeL size c w0 F (sliced a l q cap size) ((xs.take q).drop l) := by
 obtain ⟨a', cap', b, off, h1, h2, h3, h5, h4⟩ := h
 cases h1
 have hlen : ((xs.take q).drop l).length = q - l := by rw [List.length_drop, List.length_take]; omega
 have hz : q - l = 0 → (xs.take q).drop l = [] := fun e => List.eq_nil_of_length_eq_zero (by omega)
 unfold sliced
 by_cases hc : cap = l
 · have : q = l := by omega
   subst this
   rw [if_pos hc, hz (by omega)]
   exact ⟨a, cap - q, b, off, by simp, by simp, fun h => absurd h (by simp), ⟨(fun e => by have := h5.1 e; omega), fun x e => .inl (by omega)⟩, fun w' _ j u hj => by simp [cl] at hj⟩
 · rw [if_neg hc, ← hlen]
   refine ⟨_, _, b, off + l * size, rfl, by rw [hlen]; omega, fun h0 => ?_, ⟨fun e => ?_, fun x e => ?_⟩, fun w' H j u hj => ?_⟩
   · rw [h3 (by omega)]; show some (Addr.add _ _) = _; rw [Addr.add_lit]
   · have : a = none := by cases a <;> simp_all
     have := h5.1 this
     omega
   · cases a with
     | none => cases e
     | some y =>
      rcases h5.2 y rfl with h0 | this
      · exact .inl (by omega)
      · subst this; cases e; exact .inr (Addr.add_lit _ _ _)
   · have hr := h4 w' H
     have e2 : cl c ((xs.take q).drop l) = ((cl c xs).take (q * size)).drop (l * size) := by rw [E.cl_take, E.cl_drop]
     rw [e2, List.getElem?_drop, List.getElem?_take] at hj
     split at hj
     · rw [Nat.add_assoc]; exact hr _ _ hj
     · cases hj
theorem SeeL.from_ (E : El P e size by_ c) (ht : P.underlying t = some (.slice (P.elem t))) (he : P.elem t = e) (h : SeeL size c w0 F v xs) {k : Nat} (hk : k ≤ xs.length) :
    ∃ v', SeeL size c w0 F v' (xs.drop k) ∧ ∀ w, (Instr.sliceAt t v (some (.int .i64 (k : Int))) none none).run P w = .ok v' w := by
 obtain ⟨a, cap, h1, h2, _⟩ := h.slice
 subst h1
 obtain ⟨z, hi, hzs⟩ := E.info
 obtain ⟨i, hi, hz, hsz, hby⟩ := info_of hi
 refine ⟨sliced a k xs.length cap size, ?_, fun w => ?_⟩
 · have := h.part E (by rw [ht, he]) (l := k) (q := xs.length) hk (Nat.le_refl _)
   rwa [List.take_length] at this
 · rw [run_sliceAt_slice w t _ _ _ _ ht, run_slice_l w t a xs.length cap ht .i64 (k : Int) (by omega) (by omega), he]
   simp [sizeOf, typeInfo, hi, hsz]
theorem SeeL.upto (E : El P e size by_ c) (ht : P.underlying t = some (.slice (P.elem t))) (he : P.elem t = e) (h : SeeL size c w0 F v xs) {k : Nat} (hk : k ≤ xs.length) :
    ∃ v', SeeL size c w0 F v' (xs.take k) ∧ ∀ w, (Instr.sliceAt t v none (some (.int .i64 (k : Int))) none).run P w = .ok v' w := by
 obtain ⟨a, cap, h1, h2, _⟩ := h.slice
 subst h1
 obtain ⟨z, hi, hzs⟩ := E.info
 obtain ⟨i, hi, hz, hsz, hby⟩ := info_of hi
 refine ⟨sliced a 0 k cap size, ?_, fun w => ?_⟩
 · have := h.part E (by rw [ht, he]) (l := 0) (q := k) (Nat.zero_le _) hk
   rwa [List.drop_zero] at this
 · rw [run_sliceAt_slice w t _ _ _ _ ht, run_slice_h w t a xs.length cap ht .i64 (k : Int) (by omega) (by omega), he]
   simp [sizeOf, typeInfo, hi, hsz]
end
section
variable {P : Program} {o : Oper} {a : Act} {w w0 : World} {L : List SP} {K : Act → World → Prop} {Q : Exit → Act → World → Prop}
theorem wp_slice (t : TypeId) (x : Operand) (lo hi mx : Option Operand) (ho : o.op = .slice t x lo hi mx) {v : Value} (hr : (Instr.sliceAt t (a.eval x) (lo.map a.eval) (hi.map a.eval) (mx.map a.eval)).run P w = .ok v w) (h : K (a.put o.dst v) w) : OWp P o a w K Q := by
 refine wp_run (v := v) (w' := w) ?_ h
 unfold execOp
 simp only [ho, Sem.run_bind, hr, Result.andThen_ok, Sem.run_pure]
theorem yl_slice {ops : Array Oper} {S : World → Prop} (hw : Region.wanted o (yielded ops a.tmps) = true) (t : TypeId) (x : Operand) (lo hi mx : Option Operand) (ho : o.op = .slice t x lo hi mx) {v : Value} (hr : ∀ w, (Instr.sliceAt t (a.eval x) (lo.map a.eval) (hi.map a.eval) (mx.map a.eval)).run P w = .ok v w) : YieldsIf P ops S o v a :=
 yl hw fun w _ => by
  unfold execOp
  simp only [ho, Sem.run_bind, hr, Result.andThen_ok, Sem.run_pure]
variable {α : Type} {e : TypeId} {size by_ : Nat} {c : α → List Value}
theorem cl_replicate {α : Type} {c : α → List Value} {x : α} {u : Value} (h : c x = [u]) : ∀ n, cl c (List.replicate n x) = List.replicate n u
 | 0 => rfl
 | n + 1 => by
  rw [List.replicate_succ, List.replicate_succ, ← cl_replicate h n]
  show c x ++ _ = _
  rw [h]
  rfl
theorem wp_lmake (E : El P e size by_ c) (t : TypeId) (l cp : Operand) (ho : o.op = .makeSlice t l cp) (ht : P.underlying t = some (.slice e)) {z : Value} (hinfo : (P.info? e).map (fun i => (i.zero, i.size, i.bytes)) = some (some z, size, by_)) (x : α) (hz : z.cells = (c x).toArray) (h1 : size = 1)
    {n cap : Nat} (hl : a.eval l = .int .i64 (n : Int)) (hcp : a.eval cp = .int .i64 (cap : Int)) (hn : n ≤ cap) (hcap : cap ≤ maxLen) (hb : by_ * cap ≤ 281474976710656) (H : At w0 L w)
    (h : ∀ b w', At w0 (lrow e size c (.slice (some ⟨b, 0, none⟩) n cap) (List.replicate n x) :: L) w' → K (a.put o.dst (.slice (some ⟨b, 0, none⟩) n cap)) w') : OWp P o a w K Q := by
 subst h1
 obtain ⟨i, hi, hzz, hsz, hby⟩ := info_of hinfo
 have hc63 : (cap : Int) ≤ 9223372036854775807 := by simp only [maxLen] at hcap; omega
 have hb' : (i.bytes : Int) * (cap : Int) ≤ 281474976710656 := by
  have h : ((i.bytes * cap : Nat) : Int) ≤ 281474976710656 := by rw [hby]; omega
  rwa [Int.natCast_mul] at h
 have hr := run_make (P := P) w t e i z ht hi hzz .i64 .i64 n cap (by omega) (by omega) hb' hc63
 simp only [Int.toNat_natCast, hsz, Nat.mul_one] at hr
 have hlx := E.len x
 obtain ⟨u, hu⟩ : ∃ u, c x = [u] := by
  match hcx : c x, hlx with
  | [u], _ => exact ⟨u, rfl⟩
 have hmc : (madeCells z.cells cap).toList = List.replicate cap u := by
  apply List.ext_getElem?
  intro j
  rw [Array.getElem?_toList, hz, hu]
  unfold madeCells
  by_cases hj : j < cap
  · simp [hj, Nat.mod_one]
  · simp [hj]
 refine wp_run (v := .slice (some ⟨w.heap.size, 0, none⟩) n cap) (w' := w.alloc (.cells (madeCells z.cells cap) e)) ?_ (h _ _ ?_)
 · unfold execOp
   simp only [ho, hl, hcp, Sem.run_bind, hr, Result.andThen_ok, Sem.run_pure]
 · have H2 := At.rows_new (H.alloc (.cells (madeCells z.cells cap) e)) (n := n) (cap := cap) (size := 1) (xs := List.replicate n u) hn hcap (by rw [size_madeCells]; omega) (by rw [hmc, Nat.mul_one, List.take_replicate]; congr 1; omega)
   unfold lrow
   rw [List.length_replicate]
   rw [cl_replicate hu]
   exact H2
end
end Go.Hg
namespace Go.Hg
open Go.RowKit
structure OkS (b : Bool) (h : List (BitVec 32)) (part M : List (BitVec 8)) : Prop where
 hl : h.length = 8
 pl : part.length = 64
 pm : part.take (M.length % 64) = M.drop (64 * (M.length / 64))
 hm : b = true → h = hOf K0 H0 M
 no : b = false → M = []
theorem OkS.new : OkS false (List.replicate 8 0) (List.replicate 64 0) [] := ⟨rfl, rfl, rfl, (fun h => by cases h), fun _ => rfl⟩
theorem OkS.begun {b : Bool} {h : List (BitVec 32)} {part M : List (BitVec 8)} (O : OkS b h part M) : OkS true (if b then h else H0) part M := by
 cases b with
 | true => exact O
 | false =>
  have := O.no rfl
  subst this
  exact ⟨rfl, O.pl, O.pm, (fun _ => rfl), (fun h => by cases h)⟩
def putP (part : List (BitVec 8)) (r : Nat) (X : List (BitVec 8)) : List (BitVec 8) := part.take r ++ X ++ part.drop (r + X.length)
theorem putP_length {part X : List (BitVec 8)} {r : Nat} (hp : part.length = 64) (h : r + X.length ≤ 64) : (putP part r X).length = 64 := by
 simp [putP, hp]; omega
theorem putP_take {part X : List (BitVec 8)} {r : Nat} (hp : part.length = 64) (h : r + X.length ≤ 64) : (putP part r X).take (r + X.length) = part.take r ++ X := by
 have e : (part.take r ++ X).length = r + X.length := by simp [hp]; omega
 unfold putP
 rw [← e, List.take_left]
theorem putP_v8 (part X : List (BitVec 8)) (r : Nat) : v8 (putP part r X) = (v8 part).take r ++ v8 X ++ (v8 part).drop (r + (v8 X).length) := by
 simp [putP, v8]
theorem OkS.less {h : List (BitVec 32)} {part M X : List (BitVec 8)} {r : Nat} (O : OkS true h part M) (hr : r = M.length % 64) (hx : r + X.length < 64) : OkS true h (putP part r X) (M ++ X) := by
 have hq : (M ++ X).length / 64 = M.length / 64 := by rw [List.length_append]; omega
 have hm : (M ++ X).length % 64 = r + X.length := by rw [List.length_append]; omega
 have h64 : 64 * (M.length / 64) ≤ M.length := by omega
 refine ⟨O.hl, putP_length O.pl (by omega), ?_, fun _ => ?_, (fun h => by cases h)⟩
 · rw [hm, hq, putP_take O.pl (by omega), hr, O.pm, List.drop_append_of_le_length h64]
 · rw [O.hm rfl]
   unfold hOf
   rw [hq, hN_append _ _ _ _ _ h64]
theorem OkS.full {h : List (BitVec 32)} {part M X : List (BitVec 8)} {r : Nat} (O : OkS true h part M) (hr : r = M.length % 64) (hx : r + X.length = 64) : OkS true (mixB K0 h (putP part r X)) (putP part r X) (M ++ X) := by
 have hq : (M ++ X).length / 64 = M.length / 64 + 1 := by rw [List.length_append]; omega
 have hm : (M ++ X).length % 64 = 0 := by rw [List.length_append]; omega
 have h64 : 64 * (M.length / 64) ≤ M.length := by omega
 have hp : putP part r X = (M ++ X).drop (64 * (M.length / 64)) := by
  rw [List.drop_append_of_le_length h64, ← O.pm, ← hr, ← putP_take O.pl (by omega), hx]
  exact (List.take_of_length_le (by rw [putP_length O.pl (by omega)]; omega)).symm
 refine ⟨mixB_length _ _ _, putP_length O.pl (by omega), ?_, fun _ => ?_, (fun h => by cases h)⟩
 · rw [hm, hq, List.take_zero, List.drop_of_length_le]
   rw [List.length_append]; omega
 · rw [O.hm rfl]
   unfold hOf
   rw [hq]
   show _ = mixB K0 (hN K0 H0 (M ++ X) (M.length / 64)) (((M ++ X).drop (64 * (M.length / 64))).take 64)
   rw [hN_append _ _ _ _ _ h64, ← hp, List.take_of_length_le (by rw [putP_length O.pl (by omega)]; omega)]
def slen : Value → Nat
 | .slice _ n _ => n
 | _ => 0
end Go.Hg
namespace Go.Hg
open Go.RowKit
def upto (T : List (BitVec 8)) (m c : Nat) : List (BitVec 8) := T.take c ++ zs (m - c)
theorem upto_length {T : List (BitVec 8)} {m c : Nat} (h : T.length = m) (hc : c ≤ m) : (upto T m c).length = m := by
 simp [upto, zs_length, h]; omega
theorem upto_zero (T : List (BitVec 8)) (m : Nat) : upto T m 0 = zs m := by simp [upto]
theorem upto_full {T : List (BitVec 8)} {m : Nat} (h : T.length = m) : upto T m m = T := by
 simp [upto, zs, ← h]
theorem upto_set {T : List (BitVec 8)} {m c : Nat} (h : T.length = m) (hc : c < m) : (upto T m c).set c (gb T c) = upto T m (c + 1) := by
 have hl : (T.take c).length = c := by rw [List.length_take]; omega
 unfold upto
 rw [List.set_append_right _ _ (by omega), hl, Nat.sub_self]
 have e : zs (m - c) = 0 :: zs (m - (c + 1)) := by
  unfold zs
  rw [show m - c = (m - (c + 1)) + 1 by omega, List.replicate_succ]
 rw [e, List.set_cons_zero, List.take_succ_eq_append_getElem (by omega)]
 have e2 : gb T c = T[c]'(by omega) := by
  have := gb_get (bs := T) (i := c) (by omega)
  rw [List.getElem?_eq_getElem (by omega)] at this
  exact (Option.some.inj this).symm
 rw [e2, List.append_assoc]
 rfl
theorem flat_get {g : BitVec 32 → List (BitVec 8)} (hg : ∀ x, (g x).length = 4) : ∀ (l : List (BitVec 32)) (i k : Nat), i < l.length → k < 4 → gb (l.flatMap g) (4 * i + k) = gb (g (gw l i)) k
 | x :: l, 0, k, h, hk => by
  unfold gb
  rw [List.flatMap_cons, List.getD_eq_getElem?_getD, List.getD_eq_getElem?_getD, Nat.mul_zero, Nat.zero_add, List.getElem?_append_left (by rw [hg]; exact hk)]
  rfl
 | x :: l, i + 1, k, h, hk => by
  have ih := flat_get hg l i k (by simpa using h) hk
  have e : gw (x :: l) (i + 1) = gw l i := by simp [gw]
  rw [e, ← ih]
  unfold gb
  rw [List.flatMap_cons, List.getD_eq_getElem?_getD, List.getD_eq_getElem?_getD, List.getElem?_append_right (by rw [hg]; omega), hg]
  congr 2
  omega
theorem out4_get (x : BitVec 32) {k a : Nat} (hk : k < 4) (ha : a = 24 - 8 * k) : gb (out4 x) k = (x >>> a).setWidth 8 := by
 subst ha
 match k, hk with
 | 0, _ => rfl
 | 1, _ => rfl
 | 2, _ => rfl
 | 3, _ => simp [gb, out4]
theorem outL_get (x : BitVec 32) {k a : Nat} (hk : k < 4) (ha : a = 8 * k) : gb (outL x) k = (x >>> a).setWidth 8 := by
 subst ha
 match k, hk with
 | 0, _ => simp [gb, outL]
 | 1, _ => rfl
 | 2, _ => rfl
 | 3, _ => rfl
theorem be8_get (n : BitVec 64) {k a : Nat} (hk : k < 8) (ha : a = 56 - 8 * k) : (be8 n).take (k + 1) = (be8 n).take k ++ [(n >>> a).setWidth 8] := by
 subst ha
 match k, hk with
 | 0, _ => rfl
 | 1, _ => rfl
 | 2, _ => rfl
 | 3, _ => rfl
 | 4, _ => rfl
 | 5, _ => rfl
 | 6, _ => rfl
 | 7, _ => rfl
end Go.Hg
namespace Go.Hg
open Go.RowKit
def over (T B : List (BitVec 8)) (i : Nat) : List (BitVec 8) := T.take i ++ B.drop i
theorem over_length {T B : List (BitVec 8)} (h : T.length = B.length) (i : Nat) : (over T B i).length = B.length := by simp [over]; omega
theorem over_zero (T B : List (BitVec 8)) : over T B 0 = B := by simp [over]
theorem over_full {T B : List (BitVec 8)} (h : T.length = B.length) {n : Nat} (hn : n = B.length) : over T B n = T := by
 subst hn
 simp [over, ← h]
theorem over_get {T B : List (BitVec 8)} (h : T.length = B.length) {i : Nat} (hi : i < B.length) : gb (over T B i) i = gb B i := by
 unfold gb over
 rw [List.getD_eq_getElem?_getD, List.getD_eq_getElem?_getD, List.getElem?_append_right (by rw [List.length_take]; omega), List.getElem?_drop]
 congr 2
 rw [List.length_take]
 omega
theorem over_set {T B : List (BitVec 8)} (h : T.length = B.length) {i : Nat} (hi : i < B.length) : (over T B i).set i (gb T i) = over T B (i + 1) := by
 have hl : (T.take i).length = i := by rw [List.length_take]; omega
 unfold over
 rw [List.set_append_right _ _ (by omega), hl, Nat.sub_self, List.drop_eq_getElem_cons hi, List.set_cons_zero, List.take_add_one, gb_get (by omega), List.append_assoc]
 rfl
theorem gb_map {bs : List (BitVec 8)} {f : BitVec 8 → BitVec 8} {i : Nat} (hi : i < bs.length) : gb (bs.map f) i = f (gb bs i) := gb_of (by rw [List.getElem?_map, gb_get hi]; rfl)
section
variable {P : Program} {o : Oper} {a : Act} {w w0 : World} {L F : List SP} {K : Act → World → Prop} {Q : Exit → Act → World → Prop}
theorem wp_sta (ty : TypeId) (x y : Operand) (ho : o.op = .store ty x y) {b : Nat} {bs cs : List (BitVec 8)} (hx : a.eval x = .pointer (some ⟨b, 0, none⟩)) (hy : a.eval y = .agg (v8 cs).toArray) (hi : (P.info? ty).map (·.size) = some cs.length)
    (k : Nat) {t : TypeId} (H : At w0 L w) (hk : L[k]? = some (raw b (v8 bs).toArray t)) (hs : bs.length = cs.length)
    (h : ∀ w', At w0 (L.set k (raw b (v8 cs).toArray t)) w' → K (a.put o.dst undef) w') : OWp P o a w K Q :=
 wp_store_row_sl ty x y ho hx hy (by rw [List.size_toArray, v8_length]; exact hi) (by simpa using v8_one cs) k H hk (by rw [List.size_toArray, List.size_toArray, v8_length, v8_length, hs]) h
theorem wp_lda (ty : TypeId) (x : Operand) (ho : o.op = .load ty x) {b : Nat} {bs : List (BitVec 8)} (hx : a.eval x = .pointer (some ⟨b, 0, none⟩)) (hk : rowType P ty = true) (hi : (P.info? ty).map (·.size) = some bs.length)
    (k : Nat) {t : TypeId} (H : At w0 L w) (hL : L[k]? = some (raw b (v8 bs).toArray t)) (h : K (a.put o.dst (.agg (v8 bs).toArray)) w) : OWp P o a w K Q :=
 wp_mid ty x ho hx (v8 bs) hk (by rw [v8_length]; exact hi) (fun j v hv => by rw [Nat.zero_add, raw_cell (H.heap k hL), List.getElem?_toArray]; exact hv) h
theorem yl_lda {ops : Array Oper} {S : World → Prop} (hw : Region.wanted o (yielded ops a.tmps) = true) (ty : TypeId) (x : Operand) (ho : o.op = .load ty x) {b : Nat} {bs : List (BitVec 8)} (hx : a.eval x = .pointer (some ⟨b, 0, none⟩)) (hk : rowType P ty = true) (hi : (P.info? ty).map (·.size) = some bs.length)
    (hS : ∀ w, S w → w.rangeAt b 0 (v8 bs)) : YieldsIf P ops S o (.agg (v8 bs).toArray) a :=
 yl_mid hw ty x ho hx (v8 bs) hk (by rw [v8_length]; exact hi) hS
theorem at_blk (H : At w0 L w) (k : Nat) {b : Nat} {cs : List Value} {t : TypeId} (hL : L[k]? = some (raw b cs.toArray t)) : w.rangeAt b 0 cs := fun j v hv => by
 rw [Nat.zero_add, raw_cell (H.heap k hL), List.getElem?_toArray]
 exact hv
theorem at_part (H : At w0 L w) (k : Nat) {b off : Nat} {cs xs : List Value} {t : TypeId} (hL : L[k]? = some (raw b cs.toArray t)) (hc : (cs.drop off).take xs.length = xs) : w.rangeAt b off xs := fun j v hv => by
 rw [raw_cell (H.heap k hL), List.getElem?_toArray]
 rw [← hc, List.getElem?_take] at hv
 split at hv
 · rwa [List.getElem?_drop] at hv
 · cases hv
theorem see_blk (q : Nat) {b n : Nat} {bs : List (BitVec 8)} {t : TypeId} (hk : F[q]? = some (raw b (v8 bs).toArray t)) (hn : n = bs.length) : SeeB w0 F (.slice (some ⟨b, 0, none⟩) n n) bs := by
 subst hn
 refine see_raw (c := c8) q hk (Nat.le_refl _) ?_
 rw [cl_c8, v8_length, List.drop_zero, List.take_of_length_le (by rw [v8_length]; exact Nat.le_refl _)]
theorem see_part (q : Nat) {b off n cap : Nat} {cs : List Value} {bs : List (BitVec 8)} {t : TypeId} (hk : F[q]? = some (raw b cs.toArray t)) (hn : n = bs.length) (hcap : n ≤ cap) (hc : (cs.drop off).take n = v8 bs) : SeeB w0 F (.slice (some ⟨b, off, none⟩) n cap) bs := by
 subst hn
 refine see_raw (c := c8) q hk hcap ?_
 rw [cl_c8, v8_length]
 exact hc
theorem see_range {bs : List (BitVec 8)} {b off n cap : Nat} (H : At w0 F w) (h : SeeB w0 F (.slice (some ⟨b, off, none⟩) n cap) bs) (m : Nat) : w.rangeAt b off (v8 (bs.take m)) := by
 obtain ⟨_, _, _, _, hr⟩ := h.cells H
 intro j v hv
 refine hr b off rfl j v ?_
 rw [cl_c8]
 have hlt := (List.getElem?_eq_some_iff.1 hv).1
 rw [v8_length, List.length_take] at hlt
 rw [← hv]
 unfold v8
 rw [List.getElem?_map, List.getElem?_map, List.getElem?_take, if_pos (by omega)]
theorem one_cells {v : Value} (h : v.oneCell' = true) : v.cells = #[v] := by cases v <;> first | rfl | simp [Value.oneCell'] at h
theorem wp_list1 (t : TypeId) {e : TypeId} (ht : P.underlying t = some (.slice e)) {z : Value} {by_ : Nat} (hi : (P.info? e).map (fun i => (i.zero, i.size, i.bytes)) = some (some z, 1, by_)) (len : Nat) (parts : Array (Nat × Operand)) (ho : o.op = .buildSlice t len parts) (vs : List Value) (hlen : len = vs.length) (hpos : 0 < len) (hsmall : len ≤ 2 ^ 24)
    (hparts : (parts.map fun (i, x) => (i, a.eval x)).toList = (vs.zipIdx 0).map fun x => (x.2, x.1)) (h1 : ∀ v ∈ vs, v.oneCell' = true) (H : At w0 L w)
    (h : ∀ b w', At w0 (raw b vs.toArray e :: L) w' → K (a.put o.dst (.slice (some ⟨b, 0, none⟩) len len)) w') : OWp P o a w K Q := by
 obtain ⟨i, hi2, hz, hsz, hby⟩ := info_of hi
 refine owp (wp_buildSlice t e len parts ho vs.toArray i z ht hi2 hz (by rw [hsz]; omega) (by rw [hsz]; omega) ?_ (h _ _ (H.alloc _)))
 rw [hparts, hsz]
 exact Great.fill_flat _ _ (fun v hv => one_cells (h1 v hv)) (by simp [hlen])
def labB (s : ByteArray) : List (BitVec 8) := s.data.toList.map fun b => b.toBitVec
theorem labB_length (s : ByteArray) : (labB s).length = s.size := by
 unfold labB
 rw [List.length_map, Array.length_toList]
 rfl
theorem labB_get {s : ByteArray} {j : Nat} {v : Value} (h : (v8 (labB s))[j]? = some v) (cap : Nat) : (bytesRow s cap)[j]? = some v := by
 have hlt := (List.getElem?_eq_some_iff.1 h).1
 rw [v8_length, labB_length] at hlt
 rw [bytesRow_at s cap j hlt, ← h]
 unfold v8 labB
 rw [List.getElem?_map, List.getElem?_map, Array.getElem?_toList, Array.getElem?_eq_getElem hlt]
 rfl
theorem wp_tobytes (src dst : TypeId) (x : Operand) (ho : o.op = .convert src dst x) {e : TypeId} (hs : P.underlying src = some .string) (hd : P.underlying dst = some (.slice e)) (he : P.underlying e = some (.int .u8)) {s : ByteArray} (hx : a.eval x = .string s) (H : At w0 L w)
    (h : ∀ b cap fr w', s.size ≤ cap → At w0 (one b (.cells (bytesRow s cap) e fr) :: L) w' → K (a.put o.dst (.slice (some ⟨b, 0, none⟩) s.size cap)) w') : OWp P o a w K Q := by
 have hr := run_bytes_of_string (P := P) w src dst e s hs hd he
 have hx2 : (execOp a.eval o).run P w = .ok (.value (.slice (some ⟨w.heap.size, 0, none⟩) s.size (grownCap w s.size 0 e))) (w.drew.alloc (.cells (bytesRow s (grownCap w s.size 0 e)) e ((bytesRow s (grownCap w s.size 0 e)).size, (bytesRow s (grownCap w s.size 0 e)).size + 1))) := by
  unfold execOp
  simp only [ho, hx, Sem.run_bind, hr, Result.andThen_ok, Sem.run_pure]
 exact wp_run hx2 (h _ _ _ _ (grownCap_ge w s.size 0 e) (H.drew.alloc _))
theorem see_str (q : Nat) {b cap : Nat} {s : ByteArray} {e : TypeId} {fr : Nat × Nat} (hk : F[q]? = some (one b (.cells (bytesRow s cap) e fr))) (hc : s.size ≤ cap) : SeeB w0 F (.slice (some ⟨b, 0, none⟩) s.size cap) (labB s) := by
 refine ⟨_, cap, b, 0, by rw [labB_length], by rw [labB_length]; exact hc, fun _ => rfl, ⟨(fun e => by cases e), (fun x e => by cases e; exact .inr rfl)⟩, fun w' H j v hj => ?_⟩
 rw [cl_c8] at hj
 rw [Nat.zero_add, raw_cell (H.heap q hk)]
 exact labB_get hj cap
theorem wp_build (t : TypeId) (parts : Array (Nat × Operand)) (ho : o.op = .build t parts) {ps : List (Nat × Value)} (hp : (parts.map fun (i, x) => (i, a.eval x)).toList = ps) {v : Value} (hr : (Instr.build t ps.toArray).run P w = .ok v w) (h : K (a.put o.dst v) w) : OWp P o a w K Q := by
 subst hp
 refine wp_run (v := v) (w' := w) ?_ h
 unfold execOp
 simp only [ho, Sem.run_bind]
 have e : (parts.map fun (i, x) => (i, a.eval x)).toList.toArray = parts.map fun (i, x) => (i, a.eval x) := Array.toArray_toList
 rw [e] at hr
 rw [hr]
 simp only [Result.andThen_ok, Sem.run_pure]
theorem yl_build {ops : Array Oper} {S : World → Prop} (hw : Region.wanted o (yielded ops a.tmps) = true) (t : TypeId) (parts : Array (Nat × Operand)) (ho : o.op = .build t parts) {ps : List (Nat × Value)} (hp : (parts.map fun (i, x) => (i, a.eval x)).toList = ps) {v : Value} (hr : ∀ w, (Instr.build t ps.toArray).run P w = .ok v w) : YieldsIf P ops S o v a :=
 yl hw fun w _ => by
  subst hp
  unfold execOp
  simp only [ho, Sem.run_bind]
  have e : (parts.map fun (i, x) => (i, a.eval x)).toList.toArray = parts.map fun (i, x) => (i, a.eval x) := Array.toArray_toList
  have hr := hr w
  rw [e] at hr
  rw [hr]
  simp only [Result.andThen_ok, Sem.run_pure]
theorem wp_arr (arr : TypeId) (x : Operand) (ho : o.op = .sliceToArrayPointer arr x) {e : TypeId} {n : Nat} (hu : P.underlying arr = some (.array n e)) {b : Option Addr} {len cap : Nat} (hx : a.eval x = .slice b len cap) (hn : n ≤ len) (h : K (a.put o.dst (.pointer b)) w) : OWp P o a w K Q := by
 refine wp_run (v := .pointer b) (w' := w) ?_ h
 unfold execOp
 simp only [ho, hx, Sem.run_bind, run_arrayAt w arr e n b len cap hu hn, Result.andThen_ok, Sem.run_pure]
theorem yl_arr {ops : Array Oper} {S : World → Prop} (hw : Region.wanted o (yielded ops a.tmps) = true) (arr : TypeId) (x : Operand) (ho : o.op = .sliceToArrayPointer arr x) {e : TypeId} {n : Nat} (hu : P.underlying arr = some (.array n e)) {b : Option Addr} {len cap : Nat} (hx : a.eval x = .slice b len cap) (hn : n ≤ len) : YieldsIf P ops S o (.pointer b) a :=
 yl hw fun w _ => by
  unfold execOp
  simp only [ho, hx, Sem.run_bind, run_arrayAt w arr e n b len cap hu hn, Result.andThen_ok, Sem.run_pure]
end
section
variable {P : Program} {w : World} {fn : Func}
theorem rd_row {ty : TypeId} {b off : Nat} {cells : List Value} (hr : w.rangeAt b off cells) (hk : rowType P ty = true) (hi : (P.info? ty).map (·.size) = some cells.length) : (loadVar ty ⟨b, off, none⟩).run P w = .ok (.agg cells.toArray) w := by
 obtain ⟨d, hu, hd⟩ := rowType_spec hk
 exact run_loadVar_mid w b off ty cells d hr hu hd hi
theorem results_row {p : Tmp} {ty : TypeId} (h : fn.results = #[.cell p ty]) (tmps : Array Value) {b : Nat} {cells : List Value} (hp : tmps.getD p undef = .pointer (some ⟨b, 0, none⟩)) (hr : w.rangeAt b 0 cells) (hk : rowType P ty = true) (hi : (P.info? ty).map (·.size) = some cells.length) :
    (results fn tmps).run P w = .ok (.agg cells.toArray) w := by
 have h1 := rd_row hr hk hi
 have hp' : tmps[p]?.getD undef = .pointer (some ⟨b, 0, none⟩) := by simpa using hp
 simp [results, h, hp', asAddr, h1]
theorem results_row_tmp {p u : Tmp} {ty : TypeId} (h : fn.results = #[.cell p ty, .tmp u]) (tmps : Array Value) {b : Nat} {cells : List Value} (hp : tmps.getD p undef = .pointer (some ⟨b, 0, none⟩)) (hr : w.rangeAt b 0 cells) (hk : rowType P ty = true) (hi : (P.info? ty).map (·.size) = some cells.length) {v : Value} (hu : tmps.getD u undef = v) :
    (results fn tmps).run P w = .ok (.tuple #[.agg cells.toArray, v]) w := by
 have h1 := rd_row hr hk hi
 have hp' : tmps[p]?.getD undef = .pointer (some ⟨b, 0, none⟩) := by simpa using hp
 have hu' : tmps[u]?.getD undef = v := by simpa using hu
 simp [results, h, hp', hu', asAddr, h1, Result.andThen]
theorem results_row2_tmp {p q u : Tmp} {ty ty2 : TypeId} (h : fn.results = #[.cell p ty, .cell q ty2, .tmp u]) (tmps : Array Value) {b b2 : Nat} {cells cells2 : List Value} (hp : tmps.getD p undef = .pointer (some ⟨b, 0, none⟩)) (hr : w.rangeAt b 0 cells) (hk : rowType P ty = true) (hi : (P.info? ty).map (·.size) = some cells.length)
    (hp2 : tmps.getD q undef = .pointer (some ⟨b2, 0, none⟩)) (hr2 : w.rangeAt b2 0 cells2) (hk2 : rowType P ty2 = true) (hi2 : (P.info? ty2).map (·.size) = some cells2.length) {v : Value} (hu : tmps.getD u undef = v) :
    (results fn tmps).run P w = .ok (.tuple #[.agg cells.toArray, .agg cells2.toArray, v]) w := by
 have h1 := rd_row hr hk hi
 have h2 := rd_row hr2 hk2 hi2
 have hp' : tmps[p]?.getD undef = .pointer (some ⟨b, 0, none⟩) := by simpa using hp
 have hp2' : tmps[q]?.getD undef = .pointer (some ⟨b2, 0, none⟩) := by simpa using hp2
 have hu' : tmps[u]?.getD undef = v := by simpa using hu
 simp [results, h, hp', hp2', hu', asAddr, h1, h2, Sem.run_bind, Result.andThen]
end
end Go.Hg
namespace Go.Hg
open Go.RowKit
inductive LK where
 | b
 | i (k : IntKind)
deriving DecidableEq
def flatFs (P : Program) (g : TypeId → Option (List LK)) : Nat → List Field → Option (List LK)
 | _, [] => some []
 | off, f :: fs => if f.name ≠ "_" ∧ f.offset = off then (g f.type).bind fun ks => if P.cellsOf f.type = ks.length then (flatFs P g (off + ks.length) fs).map (ks ++ ·) else none else none
def flatK (P : Program) : Nat → TypeId → Option (List LK)
 | 0, _ => none
 | d + 1, t => match P.underlying t with
  | some .bool => some [.b]
  | some (.int q) => some [.i q]
  | some (.array n e) => (flatK P d e).bind fun ks => if P.cellsOf e = ks.length ∧ P.cellsOf t = n * ks.length then some (List.replicate n ks).flatten else none
  | some (.struct fs) => (flatFs P (flatK P d) 0 fs.toList).bind fun ks => if P.cellsOf t = ks.length then some ks else none
  | _ => none
def fit1 : LK → Value → Prop
 | .b, .bool _ => True
 | .i q, .int q' n => q' = q ∧ (Lit.int q n).wf = true
 | _, _ => False
def fits : List LK → List Value → Prop
 | [], [] => True
 | k :: ks, v :: vs => fit1 k v ∧ fits ks vs
 | _, _ => False
def litOf : Value → Lit
 | .bool b => .bool b
 | .int k n => .int k n
 | _ => .bool false
theorem fits_length : ∀ {ks : List LK} {vs : List Value}, fits ks vs → vs.length = ks.length
 | [], [], _ => rfl
 | k :: ks, v :: vs, h => by simp [fits_length h.2]
 | [], _ :: _, h => h.elim
 | _ :: _, [], h => h.elim
theorem fits_drop : ∀ {ks : List LK} {vs : List Value} (n : Nat), fits ks vs → fits (ks.drop n) (vs.drop n)
 | _, _, 0, h => h
 | [], [], n + 1, _ => by simp [fits]
 | k :: ks, v :: vs, n + 1, h => fits_drop n h.2
 | [], _ :: _, _ + 1, h => h.elim
 | _ :: _, [], _ + 1, h => h.elim
theorem fits_take : ∀ {ks : List LK} {vs : List Value} (n : Nat), fits ks vs → fits (ks.take n) (vs.take n)
 | _, _, 0, h => by simp [fits]
 | [], [], n + 1, _ => by simp [fits]
 | k :: ks, v :: vs, n + 1, h => ⟨h.1, fits_take n h.2⟩
 | [], _ :: _, _ + 1, h => h.elim
 | _ :: _, [], _ + 1, h => h.elim
theorem fits_append : ∀ {as bs : List LK} {xs ys : List Value}, fits as xs → fits bs ys → fits (as ++ bs) (xs ++ ys)
 | [], _, [], _, _, h => h
 | k :: ks, _, v :: vs, _, h, h2 => ⟨h.1, fits_append h.2 h2⟩
 | [], _, _ :: _, _, h, _ => h.elim
 | _ :: _, _, [], _, h, _ => h.elim
theorem mapM_some_of {α β : Type} {f : α → Option β} {g : α → β} : ∀ {l : List α}, (∀ x ∈ l, f x = some (g x)) → l.mapM f = some (l.map g)
 | [], _ => rfl
 | x :: l, h => by
  rw [List.mapM_cons, h x (by simp), mapM_some_of fun y hy => h y (by simp [hy])]
  rfl
theorem seg_flat (m : Nat) : ∀ (n : Nat) (cs : List Value), cs.length = n * m → ((List.range n).map fun i => (cs.drop (i * m)).take m).flatten = cs
 | 0, cs, h => by
  have : cs = [] := List.eq_nil_of_length_eq_zero (by simpa using h)
  simp [this]
 | n + 1, cs, h => by
  have e : n * m + m = (n + 1) * m := by rw [Nat.add_mul, Nat.one_mul]
  have h1 : (cs.take (n * m)).length = n * m := by rw [List.length_take]; omega
  rw [List.range_succ, List.map_append, List.flatten_append]
  have ih := seg_flat m n (cs.take (n * m)) h1
  have e2 : ((List.range n).map fun i => (cs.drop (i * m)).take m) = (List.range n).map fun i => ((cs.take (n * m)).drop (i * m)).take m := by
   apply List.map_congr_left
   intro i hi
   have hi' := List.mem_range.1 hi
   have h3 : (i + 1) * m ≤ n * m := Nat.mul_le_mul_right _ hi'
   rw [Nat.add_mul, Nat.one_mul] at h3
   rw [List.drop_take, List.take_take, Nat.min_eq_left (by omega)]
  rw [e2, ih]
  simp only [List.map_cons, List.map_nil, List.flatten_cons, List.flatten_nil, List.append_nil]
  rw [List.take_of_length_le (l := cs.drop (n * m)) (by rw [List.length_drop]; omega), List.take_append_drop]
theorem rep_seg {ks : List LK} {n i : Nat} (hi : i < n) : ((List.replicate n ks).flatten.drop (i * ks.length)).take ks.length = ks := by
 obtain ⟨k, rfl⟩ : ∃ k, n = i + (k + 1) := ⟨n - i - 1, by omega⟩
 rw [← List.replicate_append_replicate, List.flatten_append, List.replicate_succ, List.flatten_cons]
 have hl : (List.replicate i ks).flatten.length = i * ks.length := by simp
 rw [← hl, List.drop_left, List.take_left]
theorem rep_length (ks : List LK) (n : Nat) : (List.replicate n ks).flatten.length = n * ks.length := by simp
theorem keyLits_flat {P : Program} : ∀ (d : Nat) (t : TypeId) (ks : List LK) (cs : List Value), flatK P d t = some ks → fits ks cs → P.keyLits d t cs = some (cs.map litOf) := by
 intro d
 induction d with
 | zero => intro t ks cs h; simp [flatK] at h
 | succ d ih =>
  intro t ks cs h hf
  unfold flatK at h
  unfold Program.keyLits
  cases hu : P.underlying t with
  | none => simp [hu] at h
  | some kd =>
   cases kd
   case bool =>
    simp [hu] at h
    subst h
    match cs, hf with
    | [.bool b], _ => rfl
    | .int _ _ :: _, h => exact h.1.elim
   case int q =>
    simp [hu] at h
    subst h
    match cs, hf with
    | [.int q' n], h => simp [h.1.1, h.1.2, litOf]
    | .bool _ :: _, h => exact h.1.elim
   case array n e =>
    simp only [hu, Option.bind_eq_some_iff] at h
    obtain ⟨ke, he, h⟩ := h
    split at h
    · rename_i hc
      cases h
      have hl : cs.length = n * ke.length := by rw [fits_length hf, rep_length]
      simp only [hc.1, hc.2, hl, if_true]
      rw [mapM_some_of (g := fun i => ((cs.drop (i * ke.length)).take ke.length).map litOf) fun i hi => ih e ke _ he (by
       have h1 := fits_take ke.length (fits_drop (i * ke.length) hf)
       rwa [rep_seg (List.mem_range.1 hi)] at h1)]
      have e3 : (List.map (fun i => List.map litOf (List.take ke.length (List.drop (i * ke.length) cs))) (List.range n)) = ((List.range n).map fun i => (cs.drop (i * ke.length)).take ke.length).map (List.map litOf) := by rw [List.map_map]; rfl
      rw [e3, Option.map_some, ← List.map_flatten, seg_flat ke.length n cs hl]
    · cases h
   case struct fs =>
    simp only [hu, Option.bind_eq_some_iff] at h
    obtain ⟨kf, hk, h⟩ := h
    split at h
    · rename_i hc
      cases h
      have hl : cs.length = P.cellsOf t := by rw [fits_length hf, hc]
      have key : ∀ (l : List Field) (off : Nat) (kl : List LK), flatFs P (flatK P d) off l = some kl → fits kl (cs.drop off) →
          (l.all (·.name != "_") = true) ∧ (l.mapM fun f => P.keyLits d f.type ((cs.drop f.offset).take (P.cellsOf f.type))).map List.flatten = some ((cs.drop off).map litOf) := by
       intro l
       induction l with
       | nil =>
        intro off kl h1 h2
        cases h1
        have : cs.drop off = [] := List.eq_nil_of_length_eq_zero (by rw [fits_length h2]; rfl)
        rw [this]
        exact ⟨rfl, rfl⟩
       | cons f l ihl =>
        intro off kl h1 h2
        unfold flatFs at h1
        split at h1
        · rename_i hn
          simp only [Option.bind_eq_some_iff] at h1
          obtain ⟨k1, g1, h1⟩ := h1
          split at h1
          · rename_i hc1
            obtain ⟨k2, g2, h1⟩ := Option.map_eq_some_iff.1 h1
            subst h1
            have f1 : fits k1 ((cs.drop off).take k1.length) := by
             have := fits_take k1.length h2
             rwa [List.take_left] at this
            have f2 : fits k2 (cs.drop (off + k1.length)) := by
             have := fits_drop k1.length h2
             rwa [List.drop_left, List.drop_drop] at this
            obtain ⟨a1, a2⟩ := ihl _ _ g2 f2
            refine ⟨by simp [hn.1]; simpa using a1, ?_⟩
            obtain ⟨r, r1, r2⟩ := Option.map_eq_some_iff.1 a2
            rw [List.mapM_cons, hn.2, hc1, ih f.type k1 _ g1 f1, r1]
            show some (_ :: r).flatten = _
            rw [List.flatten_cons, r2, ← List.map_append, ← List.drop_drop, List.take_append_drop]
          · cases h1
        · cases h1
      obtain ⟨a1, a2⟩ := key fs.toList 0 _ hk (by simpa using hf)
      have a1' : fs.all (·.name != "_") = true := by rw [← Array.all_toList]; exact a1
      simp only [hl, a1', and_self, if_true]
      simpa using a2
    · cases h
   all_goals simp [hu] at h
theorem litOf_inj : ∀ {ks : List LK} {xs ys : List Value}, fits ks xs → fits ks ys → (xs.map litOf = ys.map litOf ↔ xs = ys)
 | [], [], [], _, _ => by simp
 | k :: ks, x :: xs, y :: ys, h, h2 => by
  have ih := litOf_inj h.2 h2.2
  simp only [List.map_cons, List.cons.injEq, ih]
  have : litOf x = litOf y ↔ x = y := by
   cases k with
   | b =>
    cases x <;> try exact h.1.elim
    cases y <;> try exact h2.1.elim
    simp [litOf]
   | i q =>
    cases x <;> try exact h.1.elim
    cases y <;> try exact h2.1.elim
    simp [litOf]
  rw [this]
 | [], _ :: _, _, h, _ => h.elim
 | _ :: _, [], _, h, _ => h.elim
 | [], [], _ :: _, _, h => h.elim
 | _ :: _, _ :: _, [], _, h => h.elim
noncomputable def eqB (xs ys : List Value) : Bool := @decide (xs = ys) (Classical.propDecidable _)
theorem eqB_iff {xs ys : List Value} : eqB xs ys = true ↔ xs = ys := by unfold eqB; exact @decide_eq_true_iff _ (Classical.propDecidable _)
theorem eqB_refl (xs : List Value) : eqB xs xs = true := eqB_iff.2 rfl
theorem eqB_ne {xs ys : List Value} (h : xs ≠ ys) : eqB xs ys = false := by
 cases e : eqB xs ys with
 | false => rfl
 | true => exact absurd (eqB_iff.1 e) h
section
variable {P : Program} {t : TypeId} {ks : List LK} {xs ys : List Value}
theorem run_equalIn_flat {m : Nat} (hm : m ≤ 10000) (hk : P.keyTypeAt m t = true) (hr : (match P.underlying t with | some (.struct _) => true | some (.array _ _) => true | _ => false) = true) (hf : flatK P m t = some ks) (hc : P.cellsOf t = ks.length) (hx : fits ks xs) (hy : fits ks ys) (w : World) :
    (Op.equalIn 10000 t (.agg xs.toArray) (.agg ys.toArray)).run P w = .ok (eqB xs ys) w := by
 have h := run_equalIn_deep (P := P) (10000 - m) m t hk
 rw [show 10000 - m + m = 10000 by omega] at h
 have hform : ∀ zs : List Value, fits ks zs → (Value.agg zs.toArray).formed P t = true := fun zs hz => by
  have := fits_length hz
  unfold Value.formed
  split at hr <;> simp_all
 obtain ⟨r, h1, h2⟩ := h w m m (.agg xs.toArray) (.agg ys.toArray) _ _ (hform xs hx) (hform ys hy) (keyLits_flat m t ks xs hf hx) (keyLits_flat m t ks ys hf hy)
 rw [litOf_inj hx hy] at h2
 rw [h1]
 congr 1
 cases r
 · exact (eqB_ne fun e => absurd (h2.2 e) (by simp)).symm
 · exact (eqB_iff.2 (h2.1 rfl)).symm
variable {o : Oper} {ρ : Operand → Value} {w : World} {x y : Operand} {yt : TypeId}
theorem guard_flat (op : BinOp) (hg : P.eqGuardType P.depth t = false) (as bs : Array Value) : (eqGuard op t x y (.agg as) (.agg bs)).run P w = .ok () w := guard_bytes op hg as bs
theorem exec_neq_flat (ho : o.op = .binOp .neq t x y yt) (hx : ρ x = .agg xs.toArray) (hy : ρ y = .agg ys.toArray) {m : Nat} (hm : m ≤ 10000) (hk : P.keyTypeAt m t = true) (hr : (match P.underlying t with | some (.struct _) => true | some (.array _ _) => true | _ => false) = true) (hf : flatK P m t = some ks) (hc : P.cellsOf t = ks.length)
    (hg : P.eqGuardType P.depth t = false) (hfx : fits ks xs) (hfy : fits ks ys) : (execOp ρ o).run P w = .ok (.value (.bool (!eqB xs ys))) w := by
 have h1 := run_equalIn_flat hm hk hr hf hc hfx hfy w
 have h2 := guard_flat (P := P) (w := w) (t := t) (x := x) (y := y) .neq hg xs.toArray ys.toArray
 unfold execOp
 simp only [ho, hx, hy, Sem.run_bind, h2, Result.andThen_ok, run_neq_struct, h1, Sem.run_pure]
theorem exec_eql_flat (ho : o.op = .binOp .eql t x y yt) (hx : ρ x = .agg xs.toArray) (hy : ρ y = .agg ys.toArray) {m : Nat} (hm : m ≤ 10000) (hk : P.keyTypeAt m t = true) (hr : (match P.underlying t with | some (.struct _) => true | some (.array _ _) => true | _ => false) = true) (hf : flatK P m t = some ks) (hc : P.cellsOf t = ks.length)
    (hg : P.eqGuardType P.depth t = false) (hfx : fits ks xs) (hfy : fits ks ys) : (execOp ρ o).run P w = .ok (.value (.bool (eqB xs ys))) w := by
 have h1 := run_equalIn_flat hm hk hr hf hc hfx hfy w
 have h2 := guard_flat (P := P) (w := w) (t := t) (x := x) (y := y) .eql hg xs.toArray ys.toArray
 unfold execOp
 simp only [ho, hx, hy, Sem.run_bind, h2, Result.andThen_ok, run_eql_struct, h1, Sem.run_pure]
end
theorem wf_u8 (b : BitVec 8) : (Lit.int .u8 (iv b)).wf = true := by
 have h0 := iv_nonneg b
 have h1 := iv8_le b
 have e1 : IntKind.u8.min = 0 := rfl
 have e2 : IntKind.u8.max = 255 := rfl
 simp [Lit.wf, e1, e2]
 omega
theorem fits_v8 : ∀ bs : List (BitVec 8), fits (List.replicate bs.length (.i .u8)) (v8 bs)
 | [] => trivial
 | b :: bs => ⟨⟨rfl, wf_u8 b⟩, fits_v8 bs⟩
end Go.Hg
namespace Go.Hg
open Go.RowKit
structure SlotD where
 last : Bool
 next : Nat
 box : Nat
 who : Nat
 epoch : Nat
 nonce : List (BitVec 8)
 mac : List (BitVec 8)
 lo : Nat
 hi : Nat
 delay : Nat
deriving DecidableEq
namespace SlotD
structure ok (s : SlotD) : Prop where
 next : s.next < 65536
 box : s.box < 65536
 who : s.who < 65536
 epoch : s.epoch < 4294967296
 nonce : s.nonce.length = 16
 mac : s.mac.length = 16
 lo : s.lo < 18446744073709551616
 hi : s.hi < 18446744073709551616
 delay : s.delay < 4294967296
def zero : SlotD := ⟨false, 0, 0, 0, 0, zs 16, zs 16, 0, 0, 0⟩
theorem zero_ok : zero.ok := by constructor <;> first | (exact zs_length 16) | (simp [zero])
def only (s : SlotD) : SlotD := if s.last then ⟨true, 0, s.box, 0, 0, zs 16, zs 16, s.lo, s.hi, s.delay⟩ else { s with box := 0 }
theorem only_ok {s : SlotD} (h : s.ok) : s.only.ok := by
 unfold only
 split
 · exact ⟨by simp, h.box, by simp, by simp, zs_length 16, zs_length 16, h.lo, h.hi, h.delay⟩
 · exact ⟨h.next, by simp, h.who, h.epoch, h.nonce, h.mac, h.lo, h.hi, h.delay⟩
def right (s : SlotD) : Bool := decide (s.lo ≤ s.hi ∧ s = s.only)
def kind (s : SlotD) : Nat := if s.last then 1 else 0
def to (s : SlotD) : Nat := if s.last then s.box else s.next
def bytes (s : SlotD) : List (BitVec 8) := beN 1 s.kind ++ beN 2 s.to ++ beN 8 s.lo ++ beN 8 s.hi ++ beN 4 s.delay ++ beN 2 s.who ++ beN 4 s.epoch ++ s.nonce ++ s.mac ++ zs 3
theorem bytes_length {s : SlotD} (hn : s.nonce.length = 16) (hm : s.mac.length = 16) : s.bytes.length = 64 := by simp [bytes, beN_length, hn, hm, zs_length]
def pre (s : SlotD) : List Value := [.bool s.last, .int .u16 (s.next : Int), .int .u16 (s.box : Int), .int .u16 (s.who : Int), .int .u32 (s.epoch : Int)]
def post (s : SlotD) : List Value := [.int .u64 (s.lo : Int), .int .u64 (s.hi : Int), .int .u32 (s.delay : Int)]
theorem pre_length (s : SlotD) : s.pre.length = 5 := rfl
theorem post_length (s : SlotD) : s.post.length = 3 := rfl
def cells (s : SlotD) : List Value := s.pre ++ v8 s.nonce ++ v8 s.mac ++ s.post
theorem cells_length {s : SlotD} (hn : s.nonce.length = 16) (hm : s.mac.length = 16) : s.cells.length = 40 := by simp [cells, v8_length, hn, hm, pre_length, post_length]
theorem cells_one {s : SlotD} : ∀ u ∈ s.cells, u.oneCell' = true := fun u hu => by
 unfold cells at hu
 simp only [List.mem_append] at hu
 rcases hu with ((hu | hu) | hu) | hu
 · simp [pre] at hu; rcases hu with rfl | rfl | rfl | rfl | rfl <;> rfl
 · exact v8_one _ u hu
 · exact v8_one _ u hu
 · simp [post] at hu; rcases hu with rfl | rfl | rfl <;> rfl
theorem cells_post {s : SlotD} (hn : s.nonce.length = 16) (hm : s.mac.length = 16) (j : Nat) : s.cells[37 + j]? = s.post[j]? := by
 unfold cells
 rw [List.getElem?_append_right (by simp [v8_length, hn, hm, pre_length])]
 congr 1
 simp [v8_length, hn, hm, pre_length]
theorem cells_nonce {s : SlotD} (hn : s.nonce.length = 16) : (s.cells.drop 5).take 16 = v8 s.nonce := by
 have e : (v8 s.nonce).length = 16 := by rw [v8_length, hn]
 show ((v8 s.nonce ++ v8 s.mac) ++ _).take 16 = _
 rw [List.append_assoc, ← e, List.take_left]
theorem cells_mac {s : SlotD} (hn : s.nonce.length = 16) (hm : s.mac.length = 16) : (s.cells.drop 21).take 16 = v8 s.mac := by
 have e : (v8 s.nonce).length = 16 := by rw [v8_length, hn]
 have e2 : (v8 s.mac).length = 16 := by rw [v8_length, hm]
 have h : s.cells.drop 21 = (v8 s.mac) ++ s.post := by
  have : s.cells.drop 21 = (s.cells.drop 5).drop 16 := by rw [List.drop_drop]
  rw [this]
  show ((v8 s.nonce ++ v8 s.mac) ++ _).drop 16 = _
  rw [List.append_assoc, ← e, List.drop_left]
 rw [h, ← e2, List.take_left]
theorem set_last (s : SlotD) (b : Bool) : s.cells.toArray.setIfInBounds 0 (.bool b) = ({ s with last := b } : SlotD).cells.toArray := by apply Array.ext'; rw [Array.toList_setIfInBounds]; rfl
theorem set_next (s : SlotD) (n : Nat) : s.cells.toArray.setIfInBounds 1 (.int .u16 (n : Int)) = ({ s with next := n } : SlotD).cells.toArray := by apply Array.ext'; rw [Array.toList_setIfInBounds]; rfl
theorem set_box (s : SlotD) (n : Nat) : s.cells.toArray.setIfInBounds 2 (.int .u16 (n : Int)) = ({ s with box := n } : SlotD).cells.toArray := by apply Array.ext'; rw [Array.toList_setIfInBounds]; rfl
theorem set_who (s : SlotD) (n : Nat) : s.cells.toArray.setIfInBounds 3 (.int .u16 (n : Int)) = ({ s with who := n } : SlotD).cells.toArray := by apply Array.ext'; rw [Array.toList_setIfInBounds]; rfl
theorem set_epoch (s : SlotD) (n : Nat) : s.cells.toArray.setIfInBounds 4 (.int .u32 (n : Int)) = ({ s with epoch := n } : SlotD).cells.toArray := by apply Array.ext'; rw [Array.toList_setIfInBounds]; rfl
theorem set_post (s : SlotD) (hn : s.nonce.length = 16) (hm : s.mac.length = 16) (j : Nat) (v : Value) : s.cells.toArray.setIfInBounds (37 + j) v = (s.pre ++ v8 s.nonce ++ v8 s.mac ++ s.post.set j v).toArray := by
 apply Array.ext'
 rw [Array.toList_setIfInBounds]
 show s.cells.set _ _ = _
 unfold cells
 rw [List.set_append_right _ _ (by simp [v8_length, hn, hm, pre_length])]
 congr 2
 simp [v8_length, hn, hm, pre_length]
theorem set_lo (s : SlotD) (hn : s.nonce.length = 16) (hm : s.mac.length = 16) (n : Nat) : s.cells.toArray.setIfInBounds 37 (.int .u64 (n : Int)) = ({ s with lo := n } : SlotD).cells.toArray := set_post s hn hm 0 _
theorem set_hi (s : SlotD) (hn : s.nonce.length = 16) (hm : s.mac.length = 16) (n : Nat) : s.cells.toArray.setIfInBounds 38 (.int .u64 (n : Int)) = ({ s with hi := n } : SlotD).cells.toArray := set_post s hn hm 1 _
theorem set_delay (s : SlotD) (hn : s.nonce.length = 16) (hm : s.mac.length = 16) (n : Nat) : s.cells.toArray.setIfInBounds 39 (.int .u32 (n : Int)) = ({ s with delay := n } : SlotD).cells.toArray := set_post s hn hm 2 _
theorem put_nonce (s : SlotD) (hn : s.nonce.length = 16) (X : List (BitVec 8)) (hX : X.length = 16) : s.cells.take 5 ++ v8 X ++ s.cells.drop (5 + (v8 X).length) = ({ s with nonce := X } : SlotD).cells := by
 have e : (v8 s.nonce).length = 16 := by rw [v8_length, hn]
 have h : s.cells.drop (5 + (v8 X).length) = v8 s.mac ++ s.post := by
  rw [v8_length, hX, ← List.drop_drop]
  show ((v8 s.nonce ++ v8 s.mac) ++ _).drop 16 = _
  rw [List.append_assoc, ← e, List.drop_left]
 rw [h]
 have e3 : s.cells.take 5 = s.pre := rfl
 rw [e3]
 show s.pre ++ v8 X ++ (v8 s.mac ++ s.post) = s.pre ++ v8 X ++ v8 s.mac ++ s.post
 simp only [List.append_assoc]
theorem put_mac (s : SlotD) (hn : s.nonce.length = 16) (hm : s.mac.length = 16) (X : List (BitVec 8)) (hX : X.length = 16) : s.cells.take 21 ++ v8 X ++ s.cells.drop (21 + (v8 X).length) = ({ s with mac := X } : SlotD).cells := by
 have e : (s.pre ++ v8 s.nonce).length = 21 := by simp [v8_length, hn, pre_length]
 have e2 : (s.pre ++ v8 s.nonce ++ v8 s.mac).length = 37 := by simp [v8_length, hn, hm, pre_length]
 have h1 : s.cells.take 21 = s.pre ++ v8 s.nonce := by
  unfold cells
  rw [List.append_assoc _ (v8 s.mac), ← e, List.take_left]
 have h2 : s.cells.drop (21 + (v8 X).length) = s.post := by
  rw [v8_length, hX]
  unfold cells
  rw [show 21 + 16 = 37 from rfl, ← e2, List.drop_left]
 rw [h1, h2]
 rfl
def kinds : List LK := [.b, .i .u16, .i .u16, .i .u16, .i .u32] ++ List.replicate 16 (.i .u8) ++ List.replicate 16 (.i .u8) ++ [.i .u64, .i .u64, .i .u32]
end SlotD
theorem wf_u16 {n : Nat} (h : n < 65536) : (Lit.int .u16 (n : Int)).wf = true := by
 have e1 : IntKind.u16.min = 0 := rfl
 have e2 : IntKind.u16.max = 65535 := rfl
 simp [Lit.wf, e1, e2]
 omega
theorem wf_u32 {n : Nat} (h : n < 4294967296) : (Lit.int .u32 (n : Int)).wf = true := by
 have e1 : IntKind.u32.min = 0 := rfl
 have e2 : IntKind.u32.max = 4294967295 := rfl
 simp [Lit.wf, e1, e2]
 omega
theorem wf_u64 {n : Nat} (h : n < 18446744073709551616) : (Lit.int .u64 (n : Int)).wf = true := by
 have e1 : IntKind.u64.min = 0 := rfl
 have e2 : IntKind.u64.max = 18446744073709551615 := rfl
 simp [Lit.wf, e1, e2]
 omega
theorem fits_v8n {bs : List (BitVec 8)} {n : Nat} (h : bs.length = n) : fits (List.replicate n (.i .u8)) (v8 bs) := by
 subst h
 exact fits_v8 bs
namespace SlotD
theorem fits_cells {s : SlotD} (h : s.ok) : fits kinds s.cells :=
 fits_append (fits_append (fits_append ⟨trivial, ⟨rfl, wf_u16 h.next⟩, ⟨rfl, wf_u16 h.box⟩, ⟨rfl, wf_u16 h.who⟩, ⟨rfl, wf_u32 h.epoch⟩, trivial⟩ (fits_v8n h.nonce)) (fits_v8n h.mac)) ⟨⟨rfl, wf_u64 h.lo⟩, ⟨rfl, wf_u64 h.hi⟩, ⟨rfl, wf_u32 h.delay⟩, trivial⟩
theorem v8_inj {a b : List (BitVec 8)} (h : v8 a = v8 b) : a = b := by
 unfold v8 at h
 refine List.map_inj_right (f := fun b : BitVec 8 => Value.int .u8 (iv b)) (fun x y e => ?_) |>.1 h
 simp only [Value.int.injEq, true_and] at e
 exact iv_inj.1 e
theorem cells_inj {s t : SlotD} (hs : s.ok) (ht : t.ok) (h : s.cells = t.cells) : s = t := by
 have hn : v8 s.nonce = v8 t.nonce := by rw [← cells_nonce hs.nonce, ← cells_nonce ht.nonce, h]
 have hm : v8 s.mac = v8 t.mac := by rw [← cells_mac hs.nonce hs.mac, ← cells_mac ht.nonce ht.mac, h]
 have h0 : s.cells[0]? = t.cells[0]? := by rw [h]
 have h1 : s.cells[1]? = t.cells[1]? := by rw [h]
 have h2 : s.cells[2]? = t.cells[2]? := by rw [h]
 have h3 : s.cells[3]? = t.cells[3]? := by rw [h]
 have h4 : s.cells[4]? = t.cells[4]? := by rw [h]
 have h5 : s.cells[37 + 0]? = t.cells[37 + 0]? := by rw [h]
 have h6 : s.cells[37 + 1]? = t.cells[37 + 1]? := by rw [h]
 have h7 : s.cells[37 + 2]? = t.cells[37 + 2]? := by rw [h]
 rw [cells_post hs.nonce hs.mac, cells_post ht.nonce ht.mac] at h5 h6 h7
 have e0 : s.last = t.last := by simp [cells, pre] at h0; first | exact h0 | omega
 have e1 : s.next = t.next := by simp [cells, pre] at h1; first | exact h1 | omega
 have e2 : s.box = t.box := by simp [cells, pre] at h2; first | exact h2 | omega
 have e3 : s.who = t.who := by simp [cells, pre] at h3; first | exact h3 | omega
 have e4 : s.epoch = t.epoch := by simp [cells, pre] at h4; first | exact h4 | omega
 have e5 : s.lo = t.lo := by simp [post] at h5; omega
 have e6 : s.hi = t.hi := by simp [post] at h6; omega
 have e7 : s.delay = t.delay := by simp [post] at h7; omega
 have e8 := v8_inj hn
 have e9 := v8_inj hm
 clear h hn hm h0 h1 h2 h3 h4 h5 h6 h7 hs ht
 cases s; cases t
 simp_all
def readD (b : List (BitVec 8)) : SlotD :=
 let l := decide (deN (b.take 1) = 1)
 let to := deN ((b.drop 1).take 2)
 ⟨l, if l then 0 else to, if l then to else 0, deN ((b.drop 23).take 2), deN ((b.drop 25).take 4), (b.drop 29).take 16, (b.drop 45).take 16, deN ((b.drop 3).take 8), deN ((b.drop 11).take 8), deN ((b.drop 19).take 4)⟩
theorem de_lt {b : List (BitVec 8)} {p n : Nat} (hb : b.length = 64) (h : p + n ≤ 64) : deN ((b.drop p).take n) < 256 ^ n := by
 have h1 := deN_lt ((b.drop p).take n)
 have h2 : ((b.drop p).take n).length = n := by rw [List.length_take, List.length_drop]; omega
 rwa [h2] at h1
theorem readD_ok {b : List (BitVec 8)} (hb : b.length = 64) : (readD b).ok := by
 have h1 := de_lt (p := 1) (n := 2) hb (by omega)
 have h2 := de_lt (p := 23) (n := 2) hb (by omega)
 have h3 := de_lt (p := 25) (n := 4) hb (by omega)
 have h4 := de_lt (p := 3) (n := 8) hb (by omega)
 have h5 := de_lt (p := 11) (n := 8) hb (by omega)
 have h6 := de_lt (p := 19) (n := 4) hb (by omega)
 constructor
 all_goals simp only [readD]
 · split <;> omega
 · split <;> omega
 · exact h2
 · exact h3
 · rw [List.length_take, List.length_drop]; omega
 · rw [List.length_take, List.length_drop]; omega
 · exact h4
 · exact h5
 · exact h6
def dec (b : List (BitVec 8)) : Option SlotD := if (readD b).right ∧ (readD b).bytes = b then some (readD b) else none
theorem readD_bytes {s : SlotD} (h : s.ok) (hr : s.right = true) : readD s.bytes = s := by
 have hr2 := of_decide_eq_true hr
 have l1 := beN_length 1 s.kind
 have l2 := beN_length 2 s.to
 have l3 := beN_length 8 s.lo
 have l4 := beN_length 8 s.hi
 have l5 := beN_length 4 s.delay
 have l6 := beN_length 2 s.who
 have l7 := beN_length 4 s.epoch
 have l8 := h.nonce
 have l9 := h.mac
 have hk : s.kind < 256 ^ 1 := by unfold kind; split <;> omega
 have ht : s.to < 256 ^ 2 := by have := h.box; have := h.next; unfold to; split <;> omega
 have d1 := deN_beN_lt (k := 1) hk
 have d2 := deN_beN_lt (k := 2) ht
 have d3 := deN_beN_lt (k := 8) (n := s.lo) h.lo
 have d4 := deN_beN_lt (k := 8) (n := s.hi) h.hi
 have d5 := deN_beN_lt (k := 4) (n := s.delay) h.delay
 have d6 := deN_beN_lt (k := 2) (n := s.who) h.who
 have d7 := deN_beN_lt (k := 4) (n := s.epoch) h.epoch
 have hb : s.bytes = beN 1 s.kind ++ (beN 2 s.to ++ (beN 8 s.lo ++ (beN 8 s.hi ++ (beN 4 s.delay ++ (beN 2 s.who ++ (beN 4 s.epoch ++ (s.nonce ++ (s.mac ++ zs 3)))))))) := by simp [bytes]
 rw [hb]
 generalize beN 1 s.kind = a1 at *
 generalize beN 2 s.to = a2 at *
 generalize beN 8 s.lo = a3 at *
 generalize beN 8 s.hi = a4 at *
 generalize beN 4 s.delay = a5 at *
 generalize beN 2 s.who = a6 at *
 generalize beN 4 s.epoch = a7 at *
 have seg : ∀ {p n : Nat} {A B C : List (BitVec 8)}, A.length = p → B.length = n → ((A ++ (B ++ C)).drop p).take n = B := fun {p n A B C} ha hb => by
  subst ha hb
  rw [List.drop_left, List.take_left]
 have s1 : ((a1 ++ (a2 ++ (a3 ++ (a4 ++ (a5 ++ (a6 ++ (a7 ++ (s.nonce ++ (s.mac ++ zs 3))))))))).take 1) = a1 := by rw [← l1, List.take_left]
 have s2 : ((a1 ++ (a2 ++ (a3 ++ (a4 ++ (a5 ++ (a6 ++ (a7 ++ (s.nonce ++ (s.mac ++ zs 3))))))))).drop 1).take 2 = a2 := seg l1 l2
 have s3 : ((a1 ++ (a2 ++ (a3 ++ (a4 ++ (a5 ++ (a6 ++ (a7 ++ (s.nonce ++ (s.mac ++ zs 3))))))))).drop 3).take 8 = a3 := by
  rw [← List.append_assoc a1]; exact seg (by simp [l1, l2]) l3
 have s4 : ((a1 ++ (a2 ++ (a3 ++ (a4 ++ (a5 ++ (a6 ++ (a7 ++ (s.nonce ++ (s.mac ++ zs 3))))))))).drop 11).take 8 = a4 := by
  rw [← List.append_assoc a2, ← List.append_assoc a1]; exact seg (by simp [l1, l2, l3]) l4
 have s5 : ((a1 ++ (a2 ++ (a3 ++ (a4 ++ (a5 ++ (a6 ++ (a7 ++ (s.nonce ++ (s.mac ++ zs 3))))))))).drop 19).take 4 = a5 := by
  rw [← List.append_assoc a3, ← List.append_assoc a2, ← List.append_assoc a1]; exact seg (by simp [l1, l2, l3, l4]) l5
 have s6 : ((a1 ++ (a2 ++ (a3 ++ (a4 ++ (a5 ++ (a6 ++ (a7 ++ (s.nonce ++ (s.mac ++ zs 3))))))))).drop 23).take 2 = a6 := by
  rw [← List.append_assoc a4, ← List.append_assoc a3, ← List.append_assoc a2, ← List.append_assoc a1]; exact seg (by simp [l1, l2, l3, l4, l5]) l6
 have s7 : ((a1 ++ (a2 ++ (a3 ++ (a4 ++ (a5 ++ (a6 ++ (a7 ++ (s.nonce ++ (s.mac ++ zs 3))))))))).drop 25).take 4 = a7 := by
  rw [← List.append_assoc a5, ← List.append_assoc a4, ← List.append_assoc a3, ← List.append_assoc a2, ← List.append_assoc a1]; exact seg (by simp [l1, l2, l3, l4, l5, l6]) l7
 have s8 : ((a1 ++ (a2 ++ (a3 ++ (a4 ++ (a5 ++ (a6 ++ (a7 ++ (s.nonce ++ (s.mac ++ zs 3))))))))).drop 29).take 16 = s.nonce := by
  rw [← List.append_assoc a6, ← List.append_assoc a5, ← List.append_assoc a4, ← List.append_assoc a3, ← List.append_assoc a2, ← List.append_assoc a1]; exact seg (by simp [l1, l2, l3, l4, l5, l6, l7]) l8
 have s9 : ((a1 ++ (a2 ++ (a3 ++ (a4 ++ (a5 ++ (a6 ++ (a7 ++ (s.nonce ++ (s.mac ++ zs 3))))))))).drop 45).take 16 = s.mac := by
  rw [← List.append_assoc a7, ← List.append_assoc a6, ← List.append_assoc a5, ← List.append_assoc a4, ← List.append_assoc a3, ← List.append_assoc a2, ← List.append_assoc a1]; exact seg (by simp [l1, l2, l3, l4, l5, l6, l7, l8]) l9
 unfold readD
 rw [s1, s2, s3, s4, s5, s6, s7, s8, s9, d1, d2, d3, d4, d5, d6, d7]
 have ho := hr2.2
 unfold only at ho
 unfold kind to
 cases s with
 | mk last next box who epoch nonce mac lo hi delay =>
  cases last with
  | true =>
   simp at ho
   obtain ⟨rfl, rfl, rfl, rfl, rfl⟩ := ho
   simp
  | false =>
   simp at ho
   subst ho
   simp
theorem dec_bytes {s : SlotD} (h : s.ok) (hr : s.right = true) : dec s.bytes = some s := by
 unfold dec
 rw [readD_bytes h hr, if_pos ⟨hr, rfl⟩]
theorem dec_some {b : List (BitVec 8)} {s : SlotD} (hb : b.length = 64) (h : dec b = some s) : s = readD b ∧ s.ok ∧ s.right = true ∧ s.bytes = b := by
 unfold dec at h
 split at h
 · rename_i hc
   cases h
   exact ⟨rfl, readD_ok hb, hc.1, hc.2⟩
 · cases h
end SlotD
end Go.Hg
namespace Go.Hg
open Go.RowKit
theorem splice3 {A B C X : List Value} {off : Nat} (hA : A.length = off) (hX : X.length = B.length) : (A ++ (B ++ C)).take off ++ X ++ (A ++ (B ++ C)).drop (off + X.length) = A ++ (X ++ C) := by
 subst hA
 rw [hX, List.take_left, ← List.drop_drop, List.drop_left, List.drop_left, List.append_assoc]
theorem part3 {A B C : List Value} {off n : Nat} (hA : A.length = off) (hB : B.length = n) : ((A ++ (B ++ C)).drop off).take n = B := by
 subst hA hB
 rw [List.drop_left, List.take_left]
theorem part2 {A B : List Value} {off n : Nat} (hA : A.length = off) (hB : B.length = n) : ((A ++ B).drop off).take n = B := by
 subst hA hB
 rw [List.drop_left, List.take_length]
theorem splice2 {A B X : List Value} {off : Nat} (hA : A.length = off) (hX : X.length = B.length) : (A ++ B).take off ++ X ++ (A ++ B).drop (off + X.length) = A ++ X := by
 subst hA
 rw [hX, List.take_left, ← List.drop_drop, List.drop_left, List.drop_length, List.append_nil]
def placesOf (P : Program) (t : TypeId) : Option (List Value × List (Nat × Nat)) :=
 match P.info? t, P.underlying t with
 | some it, some (.struct fields) =>
  match it.zero, fields.toList.mapM (fun f => (P.info? f.type).map fun i => (f.offset, i.size)) with
  | some z, some places => some (z.cells.toList, places)
  | _, _ => none
 | _, _ => none
def buildL (places : List (Nat × Nat)) : List Value → List (Nat × List Value) → Option (List Value)
 | cs, [] => some cs
 | cs, (i, v) :: rest => match places[i]? with
  | none => none
  | some (off, size) => if v.length = size ∧ off + v.length ≤ cs.length then buildL places (cs.take off ++ v ++ cs.drop (off + v.length)) rest else none
theorem fill_buildL {places : List (Nat × Nat)} : ∀ (parts : List (Nat × Value)) (cs : List Value) (out : List Value), buildL places cs (parts.map fun x => (x.1, x.2.cells.toList)) = some out → Instr.fill (places.toArray[·]?) cs.toArray parts = some out.toArray
 | [], cs, out, h => by cases h; rfl
 | (i, v) :: rest, cs, out, h => by
  simp only [List.map_cons, buildL] at h
  unfold Instr.fill
  have e : places.toArray[i]? = places[i]? := by simp
  rw [e]
  split at h
  · cases h
  · rename_i off size hp
    rw [hp]
    split at h
    · rename_i hc
      obtain ⟨h1, h2⟩ := hc
      have e9 : v.cells.toList.length = v.cells.size := Array.length_toList
      have e8 : cs.toArray.size = cs.length := List.size_toArray
      have hn : ¬ (v.cells.size ≠ size ∨ off + v.cells.size > cs.toArray.size) := by
       omega
      have hg : (decide (v.cells.size ≠ size) || decide (off + v.cells.size > cs.toArray.size)) = false := by
       simp only [Bool.or_eq_false_iff, decide_eq_false_iff_not]
       exact ⟨fun h => hn (.inl h), fun h => hn (.inr h)⟩
      have hs : v.cells.zipIdx.foldl (fun cs (x : Value × Nat) => cs.setIfInBounds (off + x.2) x.1) cs.toArray = (cs.take off ++ v.cells.toList ++ cs.drop (off + v.cells.toList.length)).toArray := by
       have hf := foldl_fill off v.cells.toList 0 cs.toArray (by omega)
       apply Array.ext'
       rw [← Array.foldl_toList, Array.toList_zipIdx]
       simpa using hf
      simp only [hg, Bool.false_eq_true, if_false, ne_eq]
      rw [hs]
      exact fill_buildL rest _ out h
    · cases h
theorem run_buildL {P : Program} {t : TypeId} {z : List Value} {places : List (Nat × Nat)} (hp : placesOf P t = some (z, places)) (parts : List (Nat × Value)) {out : List Value} (h : buildL places z (parts.map fun x => (x.1, x.2.cells.toList)) = some out) (w : World) :
    (Instr.build t parts.toArray).run P w = .ok (.agg out.toArray) w := by
 refine run_build w t parts.toArray out.toArray ?_
 unfold placesOf at hp
 unfold Program.built
 cases hi : P.info? t with
 | none => simp [hi] at hp
 | some it =>
  cases hu : P.underlying t with
  | none => simp [hi, hu] at hp
  | some d =>
   cases d <;> try (simp [hi, hu] at hp; done)
   case struct fields =>
    simp only [hi, hu] at hp ⊢
    cases hz : it.zero with
    | none => simp [hz] at hp
    | some zv =>
     cases hm : fields.toList.mapM (fun f => (P.info? f.type).map fun i => (f.offset, i.size)) with
     | none => simp [hz, hm] at hp
     | some ps =>
      simp [hz, hm] at hp
      obtain ⟨rfl, rfl⟩ := hp
      have := fill_buildL parts _ out h
      simpa [hz, hm] using this
structure PktD where
 who : Nat
 epoch : Nat
 nonce : List (BitVec 8)
 mac : List (BitVec 8)
 head : List (BitVec 8)
 body : List (BitVec 8)
deriving DecidableEq
namespace PktD
structure ok (p : PktD) : Prop where
 who : p.who < 65536
 epoch : p.epoch < 4294967296
 nonce : p.nonce.length = 16
 mac : p.mac.length = 16
 head : p.head.length = 320
 body : p.body.length = 256
def zero : PktD := ⟨0, 0, zs 16, zs 16, zs 320, zs 256⟩
theorem zero_ok : zero.ok := ⟨by simp [zero], by simp [zero], zs_length _, zs_length _, zs_length _, zs_length _⟩
def cells (p : PktD) : List Value := [.int .u16 (p.who : Int), .int .u32 (p.epoch : Int)] ++ (v8 p.nonce ++ (v8 p.mac ++ (v8 p.head ++ v8 p.body)))
theorem cells_length {p : PktD} (h : p.ok) : p.cells.length = 610 := by simp [cells, v8_length, h.nonce, h.mac, h.head, h.body]
theorem cells_one {p : PktD} : ∀ u ∈ p.cells, u.oneCell' = true := fun u hu => by
 unfold cells at hu
 simp only [List.mem_append] at hu
 rcases hu with hu | hu | hu | hu | hu
 · simp at hu; rcases hu with rfl | rfl <;> rfl
 all_goals exact v8_one _ u hu
variable {p : PktD}
theorem part_nonce (h : p.ok) : (p.cells.drop 2).take 16 = v8 p.nonce := part3 rfl (by rw [v8_length, h.nonce])
theorem part_mac (h : p.ok) : (p.cells.drop 18).take 16 = v8 p.mac := by
 unfold cells
 rw [← List.append_assoc]
 exact part3 (by simp [v8_length, h.nonce]) (by rw [v8_length, h.mac])
theorem part_head (h : p.ok) : (p.cells.drop 34).take 320 = v8 p.head := by
 unfold cells
 rw [← List.append_assoc, ← List.append_assoc]
 exact part3 (by simp [v8_length, h.nonce, h.mac]) (by rw [v8_length, h.head])
theorem part_body (h : p.ok) : (p.cells.drop 354).take 256 = v8 p.body := by
 unfold cells
 rw [← List.append_assoc, ← List.append_assoc, ← List.append_assoc]
 exact part2 (by simp [v8_length, h.nonce, h.mac, h.head]) (by rw [v8_length, h.body])
theorem put_who (p : PktD) (n : Nat) : p.cells.take 0 ++ [.int .u16 (n : Int)] ++ p.cells.drop (0 + 1) = ({ p with who := n } : PktD).cells := rfl
theorem put_epoch (p : PktD) (n : Nat) : p.cells.take 1 ++ [.int .u32 (n : Int)] ++ p.cells.drop (1 + 1) = ({ p with epoch := n } : PktD).cells := rfl
theorem put_nonce (h : p.nonce.length = 16) {X : List (BitVec 8)} (hX : X.length = 16) : p.cells.take 2 ++ v8 X ++ p.cells.drop (2 + (v8 X).length) = ({ p with nonce := X } : PktD).cells :=
 splice3 rfl (by rw [v8_length, v8_length, hX, h])
theorem put_mac (h : p.nonce.length = 16) (h2 : p.mac.length = 16) {X : List (BitVec 8)} (hX : X.length = 16) : p.cells.take 18 ++ v8 X ++ p.cells.drop (18 + (v8 X).length) = ({ p with mac := X } : PktD).cells := by
 unfold cells
 rw [← List.append_assoc, splice3 (by simp [v8_length, h]) (by rw [v8_length, v8_length, hX, h2]), List.append_assoc]
theorem put_head (h : p.nonce.length = 16) (h2 : p.mac.length = 16) (h3 : p.head.length = 320) {X : List (BitVec 8)} (hX : X.length = 320) : p.cells.take 34 ++ v8 X ++ p.cells.drop (34 + (v8 X).length) = ({ p with head := X } : PktD).cells := by
 unfold cells
 rw [← List.append_assoc, ← List.append_assoc, splice3 (by simp [v8_length, h, h2]) (by rw [v8_length, v8_length, hX, h3]), List.append_assoc, List.append_assoc]
theorem put_body (h : p.nonce.length = 16) (h2 : p.mac.length = 16) (h3 : p.head.length = 320) (h4 : p.body.length = 256) {X : List (BitVec 8)} (hX : X.length = 256) : p.cells.take 354 ++ v8 X ++ p.cells.drop (354 + (v8 X).length) = ({ p with body := X } : PktD).cells := by
 unfold cells
 rw [← List.append_assoc, ← List.append_assoc, ← List.append_assoc, splice2 (by simp [v8_length, h, h2, h3]) (by rw [v8_length, v8_length, hX, h4]), List.append_assoc, List.append_assoc, List.append_assoc]
def places : List (Nat × Nat) := [(0, 1), (1, 1), (2, 16), (18, 16), (34, 320), (354, 256)]
def kinds : List LK := [.i .u16, .i .u32] ++ (List.replicate 16 (.i .u8) ++ (List.replicate 16 (.i .u8) ++ (List.replicate 320 (.i .u8) ++ List.replicate 256 (.i .u8))))
theorem fits_cells (h : p.ok) : fits kinds p.cells :=
 fits_append ⟨⟨rfl, wf_u16 h.who⟩, ⟨rfl, wf_u32 h.epoch⟩, trivial⟩ (fits_append (fits_v8n h.nonce) (fits_append (fits_v8n h.mac) (fits_append (fits_v8n h.head) (fits_v8n h.body))))
theorem cells_inj {p q : PktD} (hp : p.ok) (hq : q.ok) (h : p.cells = q.cells) : p = q := by
 have e1 : v8 p.nonce = v8 q.nonce := by rw [← part_nonce hp, ← part_nonce hq, h]
 have e2 : v8 p.mac = v8 q.mac := by rw [← part_mac hp, ← part_mac hq, h]
 have e3 : v8 p.head = v8 q.head := by rw [← part_head hp, ← part_head hq, h]
 have e4 : v8 p.body = v8 q.body := by rw [← part_body hp, ← part_body hq, h]
 have h0 : p.cells[0]? = q.cells[0]? := by rw [h]
 have h1 : p.cells[1]? = q.cells[1]? := by rw [h]
 have e5 : p.who = q.who := by simp [cells] at h0; omega
 have e6 : p.epoch = q.epoch := by simp [cells] at h1; omega
 have f1 := SlotD.v8_inj e1
 have f2 := SlotD.v8_inj e2
 have f3 := SlotD.v8_inj e3
 have f4 := SlotD.v8_inj e4
 clear h e1 e2 e3 e4 h0 h1 hp hq
 cases p; cases q
 simp_all
theorem build_all {who epoch : Nat} {nonce mac head : List (BitVec 8)} (hn : nonce.length = 16) (hm : mac.length = 16) (hh : head.length = 320) :
    buildL places zero.cells [(0, [.int .u16 (who : Int)]), (1, [.int .u32 (epoch : Int)]), (2, v8 nonce), (3, v8 mac), (4, v8 head)] = some (PktD.mk who epoch nonce mac head (zs 256)).cells := by
 have z1 : zero.nonce.length = 16 := zs_length _
 have z2 : zero.mac.length = 16 := zs_length _
 have z3 : zero.head.length = 320 := zs_length _
 have l0 : zero.cells.length = 610 := cells_length zero_ok
 have l1 : ({ zero with who := who } : PktD).cells.length = 610 := by simp [cells, v8_length, zero, zs_length]
 have l2 : ({ zero with who := who, epoch := epoch } : PktD).cells.length = 610 := by simp [cells, v8_length, zero, zs_length]
 have l3 : ({ zero with who := who, epoch := epoch, nonce := nonce } : PktD).cells.length = 610 := by simp [cells, v8_length, zero, zs_length, hn]
 have l4 : ({ zero with who := who, epoch := epoch, nonce := nonce, mac := mac } : PktD).cells.length = 610 := by simp [cells, v8_length, zero, zs_length, hn, hm]
 have p1 := put_nonce (p := { zero with who := who, epoch := epoch }) z1 hn
 have p2 := put_mac (p := { zero with who := who, epoch := epoch, nonce := nonce }) hn z2 hm
 have p3 := put_head (p := { zero with who := who, epoch := epoch, nonce := nonce, mac := mac }) hn hm z3 hh
 simp only [buildL, places, List.getElem?_cons_zero, List.getElem?_cons_succ]
 simp only [List.length_singleton, true_and]
 rw [if_pos (by rw [l0]; omega), put_who zero who, if_pos (by rw [l1]; omega), put_epoch _ epoch, if_pos ⟨by rw [v8_length, hn], by rw [l2, v8_length, hn]; omega⟩, p1, if_pos ⟨by rw [v8_length, hm], by rw [l3, v8_length, hm]; omega⟩, p2, if_pos ⟨by rw [v8_length, hh], by rw [l4, v8_length, hh]; omega⟩, p3]
 rfl
end PktD
structure KeysD where
 head : List (BitVec 8)
 body : List (BitVec 8)
 mac : List (BitVec 8)
 tag : List (BitVec 8)
namespace KeysD
structure ok (k : KeysD) : Prop where
 head : k.head.length = 32
 body : k.body.length = 32
 mac : k.mac.length = 32
 tag : k.tag.length = 32
def cells (k : KeysD) : List Value := v8 k.head ++ (v8 k.body ++ (v8 k.mac ++ v8 k.tag))
def zero : KeysD := ⟨zs 32, zs 32, zs 32, zs 32⟩
variable {k : KeysD}
theorem cells_length (h : k.ok) : k.cells.length = 128 := by simp [cells, v8_length, h.head, h.body, h.mac, h.tag]
theorem cells_one : ∀ u ∈ k.cells, u.oneCell' = true := fun u hu => by
 unfold cells at hu
 simp only [List.mem_append] at hu
 rcases hu with hu | hu | hu | hu
 all_goals exact v8_one _ u hu
theorem part_head (h : k.ok) : (k.cells.drop 0).take 32 = v8 k.head := part3 (A := []) rfl (by rw [v8_length, h.head])
theorem part_body (h : k.ok) : (k.cells.drop 32).take 32 = v8 k.body := part3 (by rw [v8_length, h.head]) (by rw [v8_length, h.body])
theorem part_mac (h : k.ok) : (k.cells.drop 64).take 32 = v8 k.mac := by
 unfold cells
 rw [← List.append_assoc]
 exact part3 (by simp [v8_length, h.head, h.body]) (by rw [v8_length, h.mac])
theorem part_tag (h : k.ok) : (k.cells.drop 96).take 32 = v8 k.tag := by
 unfold cells
 rw [← List.append_assoc, ← List.append_assoc]
 exact part2 (by simp [v8_length, h.head, h.body, h.mac]) (by rw [v8_length, h.tag])
def places : List (Nat × Nat) := [(0, 32), (32, 32), (64, 32), (96, 32)]
theorem build_all (h : k.ok) : buildL places zero.cells [(0, v8 k.head), (1, v8 k.body), (2, v8 k.mac), (3, v8 k.tag)] = some k.cells := by
 have z : (v8 (zs 32)).length = 32 := by rw [v8_length, zs_length]
 have a1 : (v8 k.head).length = 32 := by rw [v8_length, h.head]
 have a2 : (v8 k.body).length = 32 := by rw [v8_length, h.body]
 have a3 : (v8 k.mac).length = 32 := by rw [v8_length, h.mac]
 have a4 : (v8 k.tag).length = 32 := by rw [v8_length, h.tag]
 have e0 : zero.cells = v8 (zs 32) ++ (v8 (zs 32) ++ (v8 (zs 32) ++ v8 (zs 32))) := rfl
 rw [e0]
 unfold cells
 generalize v8 (zs 32) = Z at *
 generalize v8 k.head = A at *
 generalize v8 k.body = B at *
 generalize v8 k.mac = C at *
 generalize v8 k.tag = D at *
 have s1 : (Z ++ (Z ++ (Z ++ Z))).take 0 ++ A ++ (Z ++ (Z ++ (Z ++ Z))).drop (0 + A.length) = A ++ (Z ++ (Z ++ Z)) := splice3 (A := []) rfl (by omega)
 have s2 : (A ++ (Z ++ (Z ++ Z))).take 32 ++ B ++ (A ++ (Z ++ (Z ++ Z))).drop (32 + B.length) = A ++ (B ++ (Z ++ Z)) := splice3 a1 (by omega)
 have s3 : (A ++ (B ++ (Z ++ Z))).take 64 ++ C ++ (A ++ (B ++ (Z ++ Z))).drop (64 + C.length) = A ++ (B ++ (C ++ Z)) := by
  rw [← List.append_assoc A, splice3 (by simp [a1, a2]) (by omega), List.append_assoc]
 have s4 : (A ++ (B ++ (C ++ Z))).take 96 ++ D ++ (A ++ (B ++ (C ++ Z))).drop (96 + D.length) = A ++ (B ++ (C ++ D)) := by
  rw [← List.append_assoc B, ← List.append_assoc A, splice2 (by simp [a1, a2, a3]) (by omega), List.append_assoc, List.append_assoc]
 simp only [buildL, places, List.getElem?_cons_zero, List.getElem?_cons_succ]
 rw [if_pos ⟨a1, by simp [z, a1]⟩, s1, if_pos ⟨a2, by simp [z, a1, a2]⟩, s2, if_pos ⟨a3, by simp [z, a1, a2, a3]⟩, s3, if_pos ⟨a4, by simp [z, a1, a2, a3, a4]⟩, s4]
end KeysD
structure HopD where
 addr : Nat
 who : Nat
 key : List (BitVec 8)
 epoch : Nat
 nonce : List (BitVec 8)
 lo : Nat
 hi : Nat
 delay : Nat
deriving DecidableEq
namespace HopD
structure ok (h : HopD) : Prop where
 addr : h.addr < 65536
 who : h.who < 65536
 key : h.key.length = 32
 epoch : h.epoch < 4294967296
 nonce : h.nonce.length = 16
 lo : h.lo < 18446744073709551616
 hi : h.hi < 18446744073709551616
 delay : h.delay < 4294967296
def cells (h : HopD) : List Value := [.int .u16 (h.addr : Int), .int .u16 (h.who : Int)] ++ (v8 h.key ++ ([.int .u32 (h.epoch : Int)] ++ (v8 h.nonce ++ [.int .u64 (h.lo : Int), .int .u64 (h.hi : Int), .int .u32 (h.delay : Int)])))
variable {h : HopD}
theorem cells_length (hk : h.key.length = 32) (hn : h.nonce.length = 16) : h.cells.length = 54 := by simp [cells, v8_length, hk, hn]
theorem cells_one : ∀ u ∈ h.cells, u.oneCell' = true := fun u hu => by
 unfold cells at hu
 simp only [List.mem_append] at hu
 rcases hu with hu | hu | hu | hu | hu
 · simp at hu; rcases hu with rfl | rfl <;> rfl
 · exact v8_one _ u hu
 · simp at hu; subst hu; rfl
 · exact v8_one _ u hu
 · simp at hu; rcases hu with rfl | rfl | rfl <;> rfl
theorem part_nonce (hk : h.key.length = 32) (hn : h.nonce.length = 16) : (h.cells.drop 35).take 16 = v8 h.nonce := by
 unfold cells
 rw [← List.append_assoc, ← List.append_assoc]
 exact part3 (by simp [v8_length, hk]) (by rw [v8_length, hn])
def kinds : List LK := [.i .u16, .i .u16] ++ (List.replicate 32 (.i .u8) ++ ([.i .u32] ++ (List.replicate 16 (.i .u8) ++ [.i .u64, .i .u64, .i .u32])))
theorem fits_cells (o : h.ok) : fits kinds h.cells :=
 fits_append ⟨⟨rfl, wf_u16 o.addr⟩, ⟨rfl, wf_u16 o.who⟩, trivial⟩ (fits_append (fits_v8n o.key) (fits_append ⟨⟨rfl, wf_u32 o.epoch⟩, trivial⟩ (fits_append (fits_v8n o.nonce) ⟨⟨rfl, wf_u64 o.lo⟩, ⟨rfl, wf_u64 o.hi⟩, ⟨rfl, wf_u32 o.delay⟩, trivial⟩)))
end HopD
def sHead : ByteArray := ⟨#[104, 101, 97, 100]⟩
def sBody : ByteArray := ⟨#[98, 111, 100, 121]⟩
def sMac : ByteArray := ⟨#[109, 97, 99]⟩
def sTag : ByteArray := ⟨#[116, 97, 103]⟩
def kD (s : ByteArray) (key : List (BitVec 8)) (epoch : Nat) (nonce : List (BitVec 8)) : List (BitVec 8) := deriveOf key [labB s, beN 4 epoch, nonce]
def keysOf (key : List (BitVec 8)) (epoch : Nat) (nonce : List (BitVec 8)) : KeysD := ⟨kD sHead key epoch nonce, kD sBody key epoch nonce, kD sMac key epoch nonce, kD sTag key epoch nonce⟩
theorem keysOf_ok (key : List (BitVec 8)) (epoch : Nat) (nonce : List (BitVec 8)) : (keysOf key epoch nonce).ok := ⟨deriveOf_length _ _, deriveOf_length _ _, deriveOf_length _ _, deriveOf_length _ _⟩
def sumOf (k : KeysD) (p : PktD) : List (BitVec 8) := (hmacOf k.mac (beN 2 p.who ++ beN 4 p.epoch ++ p.nonce ++ p.head ++ p.body)).take 16
theorem sumOf_length (k : KeysD) (p : PktD) : (sumOf k p).length = 16 := by rw [sumOf, List.length_take, hmacOf_length]; rfl
def headsOf (k : KeysD) : List (BitVec 8) := streamOf k.head (zs 12) 384
def bodiesOf (k : KeysD) : List (BitVec 8) := streamOf k.body (zs 12) 256
theorem headsOf_length {k : KeysD} (h : k.ok) : (headsOf k).length = 384 := streamOf_length h.head (zs_length _) _
theorem bodiesOf_length {k : KeysD} (h : k.ok) : (bodiesOf k).length = 256 := streamOf_length h.body (zs_length _) _
def tagOf (key : List (BitVec 8)) (epoch : Nat) (nonce : List (BitVec 8)) : List (BitVec 8) := (keysOf key epoch nonce).tag.take 16
def macOf (key : List (BitVec 8)) (p : PktD) : List (BitVec 8) := sumOf (keysOf key p.epoch p.nonce) p
def openOf (key : List (BitVec 8)) (p : PktD) : List (BitVec 8) := xorB (p.head ++ zs 64) (headsOf (keysOf key p.epoch p.nonce))
theorem openOf_length (key : List (BitVec 8)) {p : PktD} (h : p.head.length = 320) : (openOf key p).length = 384 := by rw [openOf, xorB_length, List.length_append, zs_length, h, headsOf_length (keysOf_ok _ _ _)]; rfl
def peelOf (key : List (BitVec 8)) (p : PktD) : SlotD × PktD × Nat :=
 if macOf key p ≠ p.mac then (SlotD.zero, PktD.zero, 4)
 else match SlotD.dec ((openOf key p).take 64) with
  | none => (SlotD.zero, PktD.zero, 3)
  | some s => (s, ⟨s.who, s.epoch, s.nonce, s.mac, (openOf key p).drop 64, xorB p.body (bodiesOf (keysOf key p.epoch p.nonce))⟩, 0)
def HopD.keys (h : HopD) : KeysD := keysOf h.key h.epoch h.nonce
def fillOf : List HopD → List (BitVec 8) → List (BitVec 8)
 | [], b => b
 | h :: hs, b => fillOf hs (xorB (b ++ zs 64) ((headsOf h.keys).drop (384 - (b.length + 64))))
def slotOf (h : HopD) (next : Option HopD) (behind : PktD) (box : Nat) : SlotD :=
 match next with
 | none => ⟨true, 0, box, 0, 0, zs 16, zs 16, h.lo, h.hi, h.delay⟩
 | some n => ⟨false, n.addr, 0, n.who, n.epoch, n.nonce, behind.mac, h.lo, h.hi, h.delay⟩
def wrapOf (h : HopD) (p : PktD) (s : SlotD) (e : List (BitVec 8)) : Option PktD :=
 if s.right then
  let out : PktD := ⟨h.who, h.epoch, h.nonce, zs 16, (xorB (s.bytes ++ p.head.take 256) (headsOf h.keys)).take (320 - e.length) ++ e, xorB p.body (bodiesOf h.keys)⟩
  some { out with mac := sumOf h.keys out }
 else none
def buildR : List HopD → Option HopD → PktD → List (BitVec 8) → Nat → Option PktD
 | [], _, p, _, _ => some p
 | h :: hs, next, p, e, box => (wrapOf h p (slotOf h next p box) e).bind fun q => buildR hs (some h) q [] box
def buildOf (hops : List HopD) (box : Nat) (body : List (BitVec 8)) : Option PktD :=
 if hops.length < 1 ∨ 5 < hops.length then none
 else buildR hops.reverse none { PktD.zero with body := body } (fillOf hops.dropLast []) box
end Go.Hg
namespace Go.Hg
open Go.RowKit
section
variable {w0 w : World} {e : TypeId} {size n g off cap : Nat} {xs : List Value} {L : List SP}
theorem At.rows_range {k : Nat} {n' cap' : Nat} {ys : List Value} (H : At w0 (rows e size (.slice (some ⟨g, off, none⟩) n' cap') n' ys :: L) w) : w.rangeAt g off ys := fun j u hj => by
 obtain ⟨cur, hb, _, _, _, ht⟩ := At.rows_blk H
 rw [raw_cell hb]
 rw [← ht, List.getElem?_take] at hj
 split at hj
 · rw [List.getElem?_drop] at hj
   simpa using hj
 · cases hj
theorem run_append_keep {P : Program} (H : At w0 (rows e size (.slice (some ⟨g, off, none⟩) n cap) n xs :: L) w) (t t2 ty : TypeId) (i : TypeInfo) (z : Value) (bytes : Nat) (ht : P.underlying t = some (.slice e)) (ht2 : SrcType P t2)
    (hi : P.info? e = some i) (hz : i.zero = some z) (hsize : i.size = size) (hby : i.bytes = bytes) (hzs : z.cells.size = size)
    {x : Value} {m : Nat} {news : List Value} (hx : Src P size w x m news) (h63 : n + m ≤ maxLen) (hbytes : (n + m) * bytes ≤ 140737488355328) :
    ∃ v' w', (Builtin.append_ #[t, t2] ty #[.slice (some ⟨g, off, none⟩) n cap, x]).run P w = .ok v' w' ∧ At w0 (rows e size v' (n + m) (xs ++ news) :: L) w' ∧ w'.rangeAt g off xs := by
 obtain ⟨v', w', hr, h2, _⟩ := run_append_sl H t t2 ty i z bytes ht ht2 hi hz hsize hby hzs hx h63 hbytes
 refine ⟨v', w', hr, h2, ?_⟩
 subst hsize
 subst hby
 have hsmall : n + m ≤ 9223372036854775807 := by simp only [maxLen] at h63; omega
 have hxl := H.rows_length
 have hnl := hx.length
 obtain ⟨cur, hheap, hnc, hcm, hcs, htake⟩ := At.rows_blk H
 by_cases hroom : n + m ≤ cap
 · have hfit : off + n * i.size + news.length ≤ cur.size := by
     have := Nat.mul_le_mul_right i.size hroom
     rw [Nat.add_mul] at this
     omega
   have hst := run_storeCells_at P g (off + n * i.size) e news 0 cur w hheap (by omega) hx.one
   simp only [Nat.add_zero] at hst
   have h1 := append_stay (base := some ⟨g, off, none⟩) (sLen := n) (sCap := cap) t t2 ty e i ht ht2 hi hx hroom (fun a ha => by cases ha; rw [Addr.add_lit]; exact hst) (fun e => nomatch e)
   rw [hr] at h1
   cases h1
   have h4 := At.rows_range (k := 0) h2
   exact fun j u hj => h4 j u (by rw [List.getElem?_append_left (List.getElem?_eq_some_iff.1 hj).1]; exact hj)
 · have hr0 := At.rows_range (k := 0) H
   have h1 := append_grow t t2 ty e i z ht ht2 hi hz (olds := xs) (w := w) hx (by omega) (by omega) (growslice_fits (by omega) hbytes) (fun wx hw => run_firstCells_some wx i.size n ⟨g, off, none⟩ n cap xs hxl (fun j u h => by
    rw [Addr.add_lit]
    have := hr0 j u h
    unfold World.cell? at this ⊢
    rw [hw]
    exact this))
   rw [hr] at h1
   cases h1
   have H3 := H.drew.alloc (.cells (xs.toArray ++ news.toArray ++ Builtin.zeroCells z.cells (grownCap w (n + m) cap e - (n + m))) e)
   exact At.rows_range (k := 0) (H3.pull 1 rfl)
end
section
variable {α : Type} {P : Program} {e : TypeId} {size by_ : Nat} {c : α → List Value} {w w0 : World} {L : List SP}
variable {o : Oper} {a : Act} {K : Act → World → Prop} {Q : Exit → Act → World → Prop}
theorem wp_lapp_one_keep (E : El P e size by_ c) (t : TypeId) (ht : P.underlying t = some (.slice e)) (s xo : Operand) (ho : o.op = .call { callee := .builtin .append, args := #[s, xo], argTypes := #[t, t] }) {g off m cap : Nat} {xs : List α} {y : α} (hm : m = xs.length) (hs : a.eval s = .slice (some ⟨g, off, none⟩) m cap)
    (H : At w0 (lrow e size c (.slice (some ⟨g, off, none⟩) m cap) xs :: L) w) {C : Nat} (hxo : a.eval xo = .slice (some ⟨C, 0, none⟩) 1 1) (k : Nat) {cs : Array Value} (hk : L[k]? = some (raw C cs e)) (hy : cs.toList = c y) (h63 : xs.length + 1 ≤ maxLen) (hb : (xs.length + 1) * by_ ≤ 140737488355328)
    (h : ∀ b q w', At w0 (lrow e size c (.slice b (m + 1) q) (xs ++ [y]) :: L) w' → w'.rangeAt g off (cl c xs) → K (a.put o.dst (.slice b (m + 1) q)) w') : OWp P o a w K Q := by
 subst hm
 obtain ⟨z, hi, hzs⟩ := E.info
 obtain ⟨i, hi, hz, hsz, hby⟩ := info_of hi
 have hx : Src P size w (.slice (some ⟨C, 0, none⟩) 1 1) 1 (cl c [y]) := by
  have hc := H.heap (k + 1) (by simpa using hk)
  have hl := E.len y
  refine Src.some (by simp [cl, hl]) (fun j u hj => ?_) (E.one_cl _)
  rw [Addr.add_lit, raw_cell hc, Nat.zero_add, ← Array.getElem?_toList, hy]
  simpa [cl] using hj
 unfold lrow at H h
 obtain ⟨v', w', hr, h2, h3⟩ := run_append_keep H t t o.type i z by_ ht (.inl ⟨_, ht⟩) hi hz hsz hby hzs hx h63 hb
 obtain ⟨b, q, rfl⟩ := At.rows_slice h2
 rw [← cl_append] at h2
 have h4 := h b q w' (by rw [List.length_append]; exact h2) h3
 refine owp ?_
 unfold Oper.wp execOp
 simp only [ho, resolve, invoke, builtin, Sem.run_bind, Sem.run_pure, Result.andThen_ok, List.map_toArray, List.map_cons, List.map_nil, hs, hxo, hr]
 exact h4
end
end Go.Hg
namespace Go.Hg
open Go.RowKit
def sB (l : List (BitVec 8)) : ByteArray := ⟨(l.map UInt8.ofBitVec).toArray⟩
theorem labB_sB (l : List (BitVec 8)) : labB (sB l) = l := by
 unfold labB sB
 simp [Function.comp_def]
theorem sB_size (l : List (BitVec 8)) : (sB l).size = l.length := by
 show (sB l).data.size = _
 simp [sB]
theorem sB_append (a b : List (BitVec 8)) : sB a ++ sB b = sB (a ++ b) := by
 apply ByteArray.ext
 simp [sB, ByteArray.data_append]
theorem sB_inj {a b : List (BitVec 8)} (h : sB a = sB b) : a = b := by rw [← labB_sB a, h, labB_sB]
theorem sB_extract (l : List (BitVec 8)) (i j : Nat) (hj : j ≤ l.length) : (sB l).extract i j = sB ((l.take j).drop i) := by
 apply ByteArray.ext
 rw [ByteArray.data_extract]
 apply Array.ext'
 simp [sB, List.extract_eq_take_drop, List.map_take, List.map_drop, List.drop_take]
section
variable {P : Program} {w w0 : World} {L : List SP} {o : Oper} {a : Act} {K : Act → World → Prop} {Q : Exit → Act → World → Prop}
variable {ρ : Operand → Value}
theorem exec_sadd {t yt : TypeId} {x y : Operand} (ho : o.op = .binOp .add t x y yt) {u v : List (BitVec 8)} (hx : ρ x = .string (sB u)) (hy : ρ y = .string (sB v)) (hl : u.length + v.length ≤ 1000000000) (w : World) : (execOp ρ o).run P w = .ok (.value (.string (sB (u ++ v)))) w := by
 have h : ((sB u).size : Int) + ((sB v).size : Int) ≤ 9223372036854775807 := by
  rw [sB_size, sB_size]
  omega
 have hm : IntKind.i64.max = 9223372036854775807 := rfl
 unfold execOp
 simp only [ho, hx, hy, Sem.run_bind, eqGuard, Go.binOp, Op.stringOp]
 simp [h, hm, sB_append]
theorem wp_sadd (t yt : TypeId) (x y : Operand) (ho : o.op = .binOp .add t x y yt) {u v : List (BitVec 8)} (hx : a.eval x = .string (sB u)) (hy : a.eval y = .string (sB v)) (hl : u.length + v.length ≤ 1000000000) (h : K (a.put o.dst (.string (sB (u ++ v)))) w) : OWp P o a w K Q :=
 wp_run (exec_sadd ho hx hy hl w) h
theorem exec_sneq {t yt : TypeId} {x y : Operand} (ho : o.op = .binOp .neq t x y yt) {u v : List (BitVec 8)} (hx : ρ x = .string (sB u)) (hy : ρ y = .string (sB v)) (w : World) : (execOp ρ o).run P w = .ok (.value (.bool (!decide (u = v)))) w := by
 have e : ((sB u).toList == (sB v).toList) = decide (u = v) := by
  rw [Bool.eq_iff_iff, beq_iff_eq, decide_eq_true_iff]
  exact ⟨fun h => sB_inj (by
   have h2 : (sB u).data.toList = (sB v).data.toList := by rwa [ByteArray.toList_eq, ByteArray.toList_eq] at h
   exact ByteArray.ext (Array.ext' h2)), fun h => by rw [h]⟩
 unfold execOp
 simp only [ho, hx, hy, Sem.run_bind, eqGuard, Go.binOp, Op.stringOp]
 simp [e]
theorem exec_sidx {t : TypeId} {x i : Operand} (ho : o.op = .index t x i) (ht : P.underlying t = some .string) {l : List (BitVec 8)} {k : IntKind} {n : Nat} {b : BitVec 8} (hx : ρ x = .string (sB l)) (hi : ρ i = .int k (n : Int)) (hn : l[n]? = some b) (w : World) : (execOp ρ o).run P w = .ok (.value (.int .u8 (iv b))) w := by
 have hlt := (List.getElem?_eq_some_iff.1 hn).1
 have hb := (List.getElem?_eq_some_iff.1 hn).2
 have h := run_index_string (P := P) (w := w) t (sB l) k (n : Int) ht
 rw [dif_pos (by rw [sB_size]; omega)] at h
 have e : ((sB l)[(n : Int).toNat]'(by rw [sB_size]; omega)).toNat = b.toNat := by
  show ((sB l).data[n]'(by show n < (sB l).size; rw [sB_size]; omega)).toNat = b.toNat
  simp [sB, hb]
 unfold execOp
 simp only [ho, hx, hi, Sem.run_bind, h, Result.andThen_ok, Sem.run_pure]
 rw [e]
 rfl
theorem run_spart {t : TypeId} (ht : P.underlying t = some .string) {l : List (BitVec 8)} {i j : Nat} (h1 : i ≤ j) (h2 : j ≤ l.length) (w : World) : (Instr.slice t (.string (sB l)) (some (.int .i64 (i : Int))) (some (.int .i64 (j : Int))) none).run P w = .ok (.string (sB ((l.take j).drop i))) w := by
 have h := run_slice_string (P := P) w t (sB l) .i64 .i64 (i : Int) (j : Int) ht (by omega) (by omega) (by rw [sB_size]; omega)
 rw [h]
 simp [sB_extract _ _ _ h2]
theorem bl_v8 (bs : List (BitVec 8)) : bl (bs.map UInt8.ofBitVec) = v8 bs := by
 unfold bl v8
 rw [List.map_map]
 rfl
theorem exec_str_of {src dst e : TypeId} {x : Operand} (ho : o.op = .convert src dst x) (hs : P.underlying src = some (.slice e)) (he : P.underlying e = some (.int .u8)) (hd : P.underlying dst = some .string)
    {g off n cap : Nat} {bs : List (BitVec 8)} (hx : ρ x = .slice (some ⟨g, off, none⟩) n cap) (H : At w0 L w) (hv : SeeB w0 L (.slice (some ⟨g, off, none⟩) n cap) bs) : (execOp ρ o).run P w = .ok (.value (.string (sB bs))) w := by
 obtain ⟨hn, _, _, _, hr⟩ := hv.cells H
 have h := exec_string_of (ρ := ρ) (w := w) ho hs he hd (l := bs.map UInt8.ofBitVec) hx (by rw [List.length_map]; exact hn.symm) (by rw [bl_v8, ← cl_c8]; exact hr _ _ rfl)
 rw [h]
 rfl
end
end Go.Hg
namespace Go.Hg
open Go.RowKit
theorem wp_listn {P : Program} {o : Oper} {a : Act} {w w0 : World} {L : List SP} {K : Act → World → Prop} {Q : Exit → Act → World → Prop} (t : TypeId) {e : TypeId} (ht : P.underlying t = some (.slice e)) {z : Value} {size by_ : Nat} (hi : (P.info? e).map (fun i => (i.zero, i.size, i.bytes)) = some (some z, size, by_)) (len : Nat) (parts : Array (Nat × Operand)) (ho : o.op = .buildSlice t len parts) (vs : List Value) (hlen : len = vs.length) (hpos : 0 < len * size) (hsmall : len * size ≤ 2 ^ 24)
    (hparts : (parts.map fun (i, x) => (i, a.eval x)).toList = (vs.zipIdx 0).map fun x => (x.2, x.1)) (h1 : ∀ v ∈ vs, v.cells.size = size) (H : At w0 L w)
    (h : ∀ b w', At w0 (raw b (vs.flatMap fun v => v.cells.toList).toArray e :: L) w' → K (a.put o.dst (.slice (some ⟨b, 0, none⟩) len len)) w') : OWp P o a w K Q := by
 obtain ⟨i, hi2, hz, hsz, hby⟩ := info_of hi
 have hs0 : 0 < size := Nat.pos_of_ne_zero fun e => by rw [e] at hpos; omega
 refine owp (wp_buildSlice t e len parts ho (vs.flatMap fun v => v.cells.toList).toArray i z ht hi2 hz (by rw [hsz]; omega) (by rw [hsz]; omega) ?_ (h _ _ (H.alloc _)))
 rw [hparts, hsz]
 exact Great.fill_whole hs0 _ _ h1 (by simp [hlen])
def Stop (p : Prop) : Prop := p
theorem Stop.go {p : Prop} (h : Stop p) : p := h
theorem Stop.un {p : Prop} (h : p) : Stop p := h
attribute [irreducible] Stop
theorem dst_is {P : Program} {o : Oper} {a : Act} {w : World} {K : Act → World → Prop} {Q : Exit → Act → World → Prop} (n : Nat) (_ : o.dst = some n) (h : OWp P o a w K Q) : OWp P o a w K Q := h
theorem sto_is {P : Program} {o : Oper} {a : Act} {w : World} {K : Act → World → Prop} {Q : Exit → Act → World → Prop} (n : Nat) {t : TypeId} {y : Operand} (_ : o.op = .store t (.tmp n) y) (h : OWp P o a w K Q) : OWp P o a w K Q := h
theorem place_of {α : Type} {c : α → List Value} {e : TypeId} {size m q : Nat} {xs : List α} {a : Option Addr} {w0 w : World} {F : List SP} (hm : m = xs.length) (H : At w0 F w) (k : Nat) (hk : F[k]? = some (lrow e size c (.slice a m q) xs)) (h0 : 0 < m) : ∃ g off, a = some ⟨g, off, none⟩ := by
 subst hm
 exact lrow_place H k hk h0
theorem lrow_of_raw {P : Program} {α : Type} {c : α → List Value} {e : TypeId} {size by_ : Nat} {xs : List α} {w0 w : World} {L : List SP} {b : Nat} (E : El P e size by_ c) (hl : xs.length ≤ 1000000) (H : At w0 (raw b (cl c xs).toArray e :: L) w) : At w0 (lrow e size c (.slice (some ⟨b, 0, none⟩) xs.length xs.length) xs :: L) w := by
 have h := E.cl_length xs
 have H2 := At.rows_new H (n := xs.length) (cap := xs.length) (size := size) (xs := cl c xs) (Nat.le_refl _) (by simp only [maxLen]; omega) (by rw [List.size_toArray, h]; exact Nat.le_refl _) (by rw [← h]; exact List.take_of_length_le (Nat.le_refl _))
 unfold lrow
 exact H2
theorem wp_store_fr {P : Program} {o : Oper} {a : Act} {w w0 : World} {L : List SP} {K : Act → World → Prop} {Q : Exit → Act → World → Prop} (ty : TypeId) (x y : Operand) (ho : o.op = .store ty x y) {b off : Nat} {v : Value} (hx : a.eval x = .pointer (some ⟨b, off, none⟩)) (hy : a.eval y = v) (hi : (P.info? ty).map (·.size) = some 1) (h1 : v.oneCell' = true)
    {cs : Array Value} {t : TypeId} {fr : Nat × Nat} (H : At w0 (one b (.cells cs t fr) :: L) w) (hlt : off < cs.size) (hfr : off < fr.1)
    (h : ∀ w', At w0 (one b (.cells (cs.setIfInBounds off v) t fr) :: L) w' → K (a.put o.dst undef) w') : OWp P o a w K Q := by
 refine owp ?_
 have hb := H.heap 0 rfl
 refine wp_store_cell ty x y ho hx hy hi h1 (u := cs[off]) ?_ ?_ (h _ (H.set v))
 · rw [raw_cell hb off]
   simp [hlt]
 · unfold World.frozen?
   rw [hb]
   simp
   omega
theorem see_one {α : Type} {size : Nat} {c : α → List Value} {w0 : World} {F : List SP} {xs : List α} (q : Nat) {b off cap : Nat} {cs : List Value} {t : TypeId} {fr : Nat × Nat} (hk : F[q]? = some (one b (.cells cs.toArray t fr))) (hcap : xs.length ≤ cap) (hc : (cs.drop off).take (cl c xs).length = cl c xs) : SeeL size c w0 F (.slice (some ⟨b, off, none⟩) xs.length cap) xs := by
 refine ⟨_, cap, b, off, rfl, hcap, fun _ => rfl, ⟨(fun e => by cases e), (fun x e => by cases e; exact .inr rfl)⟩, fun w' H j u hj => ?_⟩
 rw [raw_cell (H.heap q hk), List.getElem?_toArray]
 rw [← hc, List.getElem?_take] at hj
 split at hj
 · rwa [List.getElem?_drop] at hj
 · cases hj
theorem bytesRow_v8 (l : List (BitVec 8)) (cap : Nat) : bytesRow (sB l) cap = (v8 l ++ List.replicate (cap - l.length) (Value.int .u8 0)).toArray := by
 apply Array.ext'
 unfold bytesRow
 rw [sB_size]
 show ((sB l).data.map _ ++ _).toList = _
 simp [sB, v8, iv]
theorem wp_tobytes_fr {P : Program} {o : Oper} {a : Act} {w w0 : World} {L : List SP} {K : Act → World → Prop} {Q : Exit → Act → World → Prop} (src dst : TypeId) (x : Operand) (ho : o.op = .convert src dst x) {e : TypeId} (hs : P.underlying src = some .string) (hd : P.underlying dst = some (.slice e)) (he : P.underlying e = some (.int .u8)) {l : List (BitVec 8)} (hx : a.eval x = .string (sB l)) (H : At w0 L w)
    (h : ∀ b cap fr r w', l.length ≤ cap → (v8 l ++ r).length ≤ fr.1 → At w0 (one b (.cells (v8 l ++ r).toArray e fr) :: L) w' → K (a.put o.dst (.slice (some ⟨b, 0, none⟩) l.length cap)) w') : OWp P o a w K Q := by
 have hr := run_bytes_of_string (P := P) w src dst e (sB l) hs hd he
 have hx2 : (execOp a.eval o).run P w = .ok (.value (.slice (some ⟨w.heap.size, 0, none⟩) (sB l).size (grownCap w (sB l).size 0 e))) (w.drew.alloc (.cells (bytesRow (sB l) (grownCap w (sB l).size 0 e)) e ((bytesRow (sB l) (grownCap w (sB l).size 0 e)).size, (bytesRow (sB l) (grownCap w (sB l).size 0 e)).size + 1))) := by
  unfold execOp
  simp only [ho, hx, Sem.run_bind, hr, Result.andThen_ok, Sem.run_pure]
 have h2 := grownCap_ge w (sB l).size 0 e
 rw [sB_size] at hx2 h2
 refine wp_run hx2 (h _ _ ((v8 l ++ List.replicate (grownCap w l.length 0 e - l.length) (Value.int .u8 0)).length, (bytesRow (sB l) (grownCap w l.length 0 e)).size + 1) (List.replicate (grownCap w l.length 0 e - l.length) (Value.int .u8 0)) _ h2 (Nat.le_refl _) ?_)
 have H2 := H.drew.alloc (.cells (bytesRow (sB l) (grownCap w l.length 0 e)) e ((bytesRow (sB l) (grownCap w l.length 0 e)).size, (bytesRow (sB l) (grownCap w l.length 0 e)).size + 1))
 have e1 : (bytesRow (sB l) (grownCap w l.length 0 e)).size = (v8 l ++ List.replicate (grownCap w l.length 0 e - l.length) (Value.int .u8 0)).length := by rw [bytesRow_v8, List.size_toArray]
 rw [← e1, ← bytesRow_v8]
 exact H2
end Go.Hg
