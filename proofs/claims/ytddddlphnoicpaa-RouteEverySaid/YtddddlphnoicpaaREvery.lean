/-
  Each route is drawn by some words: the law answers true for every input, and its arguments read as before.
-/
import Derived.Test.YtddddlphnoicpaaRows
import Derived.Test.YtddddlphnoicpaaRouteP
import Derived.Test.YtddddlphnoicpaaNumU
import Derived.SizedLaws
namespace Go.Proofs.Ytddddlphnoicpaa
open Go.ChangeShapes Go.WideShapes Go.ChangeAt Go.RowKit Go.Hg
set_option linter.unusedSimpArgs false
set_option linter.unusedVariables false
section
variable {P : Program} {o : Oper} {a : Act} {w : World} {K : Act → World → Prop} {Q : Exit → Act → World → Prop}
theorem wp_min3 (x y z : Operand) (ts : Array TypeId) (ho : o.op = .call { callee := .builtin .min, args := #[x, y, z], argTypes := ts }) {k : IntKind} {p q r m : Int} (hx : a.eval x = .int k p) (hy : a.eval y = .int k q) (hz : a.eval z = .int k r)
    (hm : (if r < (if q < p then q else p) then r else (if q < p then q else p)) = m) (h : K (a.put o.dst (.int k m)) w) : OWp P o a w K Q := by
  refine owp ?_
  unfold Oper.wp execOp
  simp only [ho, resolve, invoke, builtin, Sem.run_bind, Sem.run_pure, Result.andThen_ok, List.map_toArray, List.map_cons, List.map_nil, hx, hy, hz]
  simp [run_min_int3, hm, Oper.upon]
  exact h
end
theorem sees_own_n {w0 w : World} {F : List SP} {k : IntKind} {P : Program} {e : TypeId} {by_ : Nat} {xs : List Int} (E : El P e 1 by_ (ic k)) (H : At w0 F w) (q : Nat) {a : Option Addr} {cap : Nat} (hk : F[q]? = some (lrow e 1 (ic k) (.slice a xs.length cap) xs)) (n : Nat) (hn : xs.length = n) : Sees w0 F k (.slice a n cap) xs := by
  subst hn
  exact sees_own E H q hk
def nrow (n : Nat) : List Int := (List.range n).map fun (j : Nat) => 3 * (j : Int) + 1
theorem nrow_succ (n : Nat) : nrow (n + 1) = nrow n ++ [3 * (n : Int) + 1] := by simp [nrow, List.range_succ]
theorem nrow_length (n : Nat) : (nrow n).length = n := by simp [nrow]
theorem gz_nrow {n i : Nat} (h : i < n) : gz (nrow n) i = 3 * (i : Int) + 1 := gz_map_range h
theorem nrow_rises (n : Nat) : risesB (nrow n) = true := risesB_true fun i hi h0 => by
  rw [nrow_length] at hi
  rw [gz_nrow (by omega), gz_nrow hi]
  omega
theorem every_ok {n : Nat} {nw : Nat} {hops last : Int} (hn : n ≤ 16) (h1 : 1 ≤ hops) (h5 : hops ≤ 5) (hh : hops ≤ n) (hl : last ∈ nrow n) (hw : hops - 1 ≤ nw) : wrongZ nw (nrow n) hops last = 0 := by
  unfold wrongZ
  rw [nrow_length, nrow_rises]
  rw [if_neg (by
    rintro (h | h | h | h)
    · omega
    · omega
    · omega
    · cases h), if_neg (not_not_intro hl), if_neg (by omega), if_neg (by omega)]
def LeftR (w0 : World) (n : Nat) (last : Int) (an : Option Addr) (cn : Nat) (j : Nat) (al : Option Addr) (cl : Nat) (ls : List Int) (w : World) : Prop :=
  ls = others last ((nrow n).take j) ∧ ls.length ≤ j ∧ At w0 [lrow 25 1 (ic .u16) (.slice al ls.length cl) ls, lrow 25 1 (ic .u16) (.slice an (nrow n).length cn) (nrow n)] w
def WantR (w0 : World) (n : Nat) (L0 : List Int) (an : Option Addr) (cn : Nat) (j : Nat) (want words left : List Int) (aw : Option Addr) (cw : Nat) (ao : Option Addr) (co : Nat) (al : Option Addr) (cl : Nat) (w : World) : Prop :=
  drawn words L0 = (want, left) ∧ words.length = j ∧ (∀ x ∈ words, 0 ≤ x ∧ x ≤ 18446744073709551615) ∧
    At w0 [lrow 25 1 (ic .u16) (.slice aw want.length cw) want, lrow 31 1 (ic .u64) (.slice ao words.length co) words, lrow 25 1 (ic .u16) (.slice al left.length cl) left, lrow 25 1 (ic .u16) (.slice an (nrow n).length cn) (nrow n)] w
set_option maxRecDepth 10000 in
set_option maxHeartbeats 1000000 in
theorem routeEvery_walk (z0 : Int) (a : Option Addr) (len cap : Nat) (w : World) (h0 : (Lit.int .i64 z0).wf = true) (h1 : IntRow .u64 w a len ∧ len ≤ 140737488351232) :
    Calls Try.prog 5 #[.int .i64 z0, .slice a len cap] w fun e w' => e = .returned (.bool true) ∧ Below w.heap.size w w' := by
  obtain ⟨h1, hlen8⟩ := h1
  obtain ⟨b, off, v, hlen, hcell⟩ := intRow_fn h1
  clear h1
  have H := At.start w
  have hx0 : bits .and .i64 z0 15 = z0 % 16 := bits_and_low z0 4 (by omega)
  obtain ⟨y, hy⟩ : ∃ y : Nat, z0 % 16 = (y : Int) := ⟨(z0 % 16).toNat, by omega⟩
  have hyb : (y : Int) < 16 := by omega
  obtain ⟨n, hn⟩ : ∃ n : Nat, n = y + 1 := ⟨_, rfl⟩
  have hn1 : (1 : Int) + y = n := by omega
  have hn16 : (n : Int) ≤ 16 := by omega
  have hn0 : (1 : Int) ≤ n := by omega
  have hlen9 : (len : Int) ≤ 140737488351232 := by omega
  clear hyb hn hlen8
  go_enter Try.func5, Try.ntmps5
  go_wp2_with fail
  refine (shown_c H).mono ?_; rintro e w' ⟨rfl, H⟩
  have H' := lrow_nil H (ic .u16) 25 1
  clear H
  go_wp2_with fail
  go_loopw [6, 7] (fun s i wr => ∃ (j : Nat) (an : Option Addr) (cn : Nat), j ≤ n ∧ i = .int .i64 j ∧ s = .slice an (nrow j).length cn ∧ At w [lrow 25 1 (ic .u16) (.slice an (nrow j).length cn) (nrow j)] wr) (fun _ i _ => n - (intOf i).toNat)
  case atStart => exact ⟨0, none, 0, by omega, rfl, rfl, H'⟩
  case round =>
    clear H' hx0 hy hn1
    obtain ⟨j, an, cn, hj, rfl, rfl, H⟩ := hrel
    have hjl := nrow_length j
    by_cases hlt : (j : Int) < n
    · have hs := Lib.hid (nrow_succ j)
      have hjl6 : (nrow j).length ≤ 16 := by omega
      have hwr : IntKind.u16.wrap (3 * (j : Int) + 1) = 3 * (j : Int) + 1 := by rw [IntKind.wrap_u16]; omega
      clear hjl
      go_wp2_with ((with_reducible refine wpList_op rfl ?_); intro _ hK; first | (refine wp_lbuild el_a (y := 3 * (j : Int) + 1) _ under_Addrs _ rfl rfl rfl (by omega) (by omega) H (fun C w' H => hK _ _ ?_)) | (refine wp_lapp_one el_a (y := 3 * (j : Int) + 1) _ under_Addrs _ _ rfl rfl (H.pull 1 rfl) rfl 0 rfl rfl (by simp only [maxLen]; omega) (by omega) (fun bb cc w' H => hK _ _ ?_)))
      first
        | (refine ⟨?_, ?measure⟩; iterate 60 (try apply Exists.intro); refine ⟨?rel, rfl⟩)
        | refine ⟨?rel, ?measure⟩
      case rel => exact ⟨j + 1, bb, cc, by omega, by go_num, by rw [hs.out]; simp, by rw [hs.out]; exact H.maskR [true, false]⟩
      case measure => simp [intOf]; omega
    · have hjn : j = n := by omega
      subst hjn
      clear hlt hj
      obtain ⟨ga, oa, rfl⟩ := lrow_place H 0 rfl (by omega)
      obtain ⟨hops, hhops⟩ : ∃ hops : Nat, (hops : Int) = (if (j : Int) < (if (5 : Int) < 1 + (len : Int) then 5 else 1 + (len : Int)) then (j : Int) else (if (5 : Int) < 1 + (len : Int) then 5 else 1 + (len : Int))) := by
        by_cases c1 : (5 : Int) < 1 + (len : Int)
        · rw [if_pos c1]
          by_cases c2 : (j : Int) < 5
          · rw [if_pos c2]; exact ⟨j, rfl⟩
          · rw [if_neg c2]; exact ⟨5, rfl⟩
        · rw [if_neg c1]
          by_cases c2 : (j : Int) < 1 + (len : Int)
          · rw [if_pos c2]; exact ⟨j, rfl⟩
          · rw [if_neg c2]; exact ⟨1 + len, by omega⟩
      have hb1 : (hops : Int) ≤ 5 ∧ (hops : Int) ≤ j ∧ (hops : Int) ≤ 1 + len ∧ (1 : Int) ≤ hops := by
        rw [hhops]
        split <;> split <;> omega
      obtain ⟨m, rfl⟩ : ∃ m, hops = m + 1 := ⟨hops - 1, by omega⟩
      obtain ⟨hb2, hb3, hb4, _⟩ := hb1
      have hm4 : (m : Int) ≤ 4 := by omega
      have hmj : (m : Int) + 1 ≤ j := by omega
      have hml : (m : Int) ≤ len := by omega
      have HH := Lib.hid hhops
      clear hhops hb2 hb3 hb4
      have hclast : wr.cell? ⟨ga, oa + (j - 1), none⟩ = some (.int .u16 (gz (nrow j) (j - 1))) := by
        simpa using lrow_cell el_a (j := 0) H 0 rfl (gz_get (xs := nrow j) (i := j - 1) (by omega)) rfl
      have hjm1 : IntKind.i64.wrap ((j : Int) - 1) = ((j - 1 : Nat) : Int) := by rw [IntKind.wrap_i64]; omega
      have hjm2 : (j : Int) - 1 = ((j - 1 : Nat) : Int) := by omega
      by_cases hlen0 : (0 : Int) < len
      · obtain ⟨ha, hx0, _⟩ := hcell 0 (by omega)
        subst ha
        have hx1 := (H.below.cell (World.block_lt_of_cell? w _ hx0)).trans hx0
        simp only [Nat.add_zero] at hx1
        obtain ⟨t, ht, htj⟩ := place (w := v 0) (n := j) (by omega)
        have hct : wr.cell? ⟨ga, oa + t, none⟩ = some (.int .u16 (gz (nrow j) t)) := by
          simpa using lrow_cell el_a (j := 0) H 0 rfl (gz_get (xs := nrow j) (i := t) (by rw [hjl]; exact htj)) rfl
        have hvb := bounds_u64 (hcell 0 (by omega)).2.2
        have hne : ¬ (j : Int) = 0 := by omega
        have htl : (t : Int) < (nrow j).length := by omega
        clear hx0
        go_wp2_with ((with_reducible refine wpList_op rfl ?_); intro _ hK; first | (refine wp_min3 _ _ _ _ rfl rfl rfl rfl HH.out.symm (hK _ _ ?_)))
        obtain ⟨last, hlast⟩ : ∃ last, last = gz (nrow j) t := ⟨_, rfl⟩
        have hmem : last ∈ nrow j := by rw [hlast]; exact gz_mem (by omega)
        rw [← hlast]
        clear hct ht htj htl hlast hx1 hvb
        have HMEM := Lib.hid hmem
        have hj16 : (nrow j).length ≤ 16 := by omega
        have HJL := Lib.hid hjl
        have hjl' : ((nrow j).length : Int) = j := by omega
        clear hmem hclast hjm1 hjm2 hjl
        have H' : LeftR w j last (some ⟨ga, oa, none⟩) cn 0 none 0 [] wr := ⟨rfl, by simp, lrow_nil H (ic .u16) 25 1⟩
        clear H
        go_loopw [10, 11] (fun s i wr => ∃ (q : Nat) (ls : List Int) (al : Option Addr) (cl : Nat), q ≤ j ∧ i = .int .i64 q ∧ s = .slice al ls.length cl ∧ LeftR w j last (some ⟨ga, oa, none⟩) cn q al cl ls wr) (fun _ i _ => j - (intOf i).toNat)
        case atStart => exact ⟨0, [], none, 0, by omega, rfl, rfl, H'⟩
        case round =>
          clear H'
          obtain ⟨q, ls, al, cl, hq, rfl, rfl, hls, hll, H⟩ := hrel
          have HLS := Lib.hid hls
          have HLL := Lib.hid hll
          clear hls
          by_cases hlt : (q : Int) < j
          · have hcq : wr.cell? ⟨ga, oa + q, none⟩ = some (.int .u16 (gz (nrow j) q)) := by
              simpa using lrow_cell el_a (j := 0) H 1 rfl (gz_get (xs := nrow j) (i := q) (by have := HJL.out; omega)) rfl
            have hsn := others_snoc (last := last) (ys := nrow j) (j := q) (by have := HJL.out; omega)
            by_cases he : gz (nrow j) q = last
            · rw [if_pos he, List.append_nil] at hsn
              have HSN := Lib.hid hsn
              rw [he] at hcq
              clear hsn he
              go_wp2
              first
                | (refine ⟨?_, ?measure⟩; iterate 60 (try apply Exists.intro); refine ⟨?rel, rfl⟩)
                | refine ⟨?rel, ?measure⟩
              case rel => exact ⟨q + 1, ls, al, cl, by omega, by go_num, rfl, by rw [HSN.out]; exact HLS.out, by have := HLL.out; omega, H⟩
              case measure => simp [intOf]; omega
            · rw [if_neg he] at hsn
              have HSN := Lib.hid hsn
              have hll6 : ls.length ≤ 16 := by omega
              obtain ⟨c, hc⟩ : ∃ c, c = gz (nrow j) q := ⟨_, rfl⟩
              rw [← hc] at hcq he
              have HC := Lib.hid hc
              clear hsn hc hll
              go_wp2_with ((with_reducible refine wpList_op rfl ?_); intro _ hK; first | (refine wp_lbuild el_a (y := c) _ under_Addrs _ rfl rfl rfl (by omega) (by omega) H (fun C w' H => hK _ _ ?_)) | (refine wp_lapp_one el_a (y := c) _ under_Addrs _ _ rfl rfl (H.pull 1 rfl) rfl 0 rfl rfl (by simp only [maxLen]; omega) (by omega) (fun bb cc w' H => hK _ _ ?_)))
              first
                | (refine ⟨?_, ?measure⟩; iterate 60 (try apply Exists.intro); refine ⟨?rel, rfl⟩)
                | refine ⟨?rel, ?measure⟩
              case rel => exact ⟨q + 1, ls ++ [c], bb, cc, by omega, by go_num, by simp, by rw [HSN.out, ← HLS.out, ← HC.out], by have := HLL.out; rw [List.length_append]; simp only [List.length_cons, List.length_nil]; omega, H.maskR [true, false, true]⟩
              case measure => simp [intOf]; omega
          · have hqj : q = j := by omega
            subst hqj
            have hls := HLS.out
            rw [List.take_of_length_le (by rw [HJL.out]; exact Nat.le_refl _)] at hls
            have hL1 := others_length (rises_nodup (nrow_rises q)) HMEM.out
            rw [← hls, HJL.out] at hL1
            have HLS2 := Lib.hid hls
            clear hls hll hq hlt HLS HLL
            have H' : WantR w q ls (some ⟨ga, oa, none⟩) cn 0 [] [] ls none 0 none 0 al cl wr := ⟨rfl, rfl, fun x h => by simp at h, lrow_nil (lrow_nil H (ic .u64) 31 1) (ic .u16) 25 1⟩
            clear H
            have hq1 : ls.length + 1 = q := hL1
            clear hL1
            go_wp2_with fail
            go_loopw [10, 12, 13, 14] (fun l10 l12 l13 i wr => ∃ (k : Nat) (want words left : List Int) (aw : Option Addr) (cw : Nat) (ao : Option Addr) (co : Nat) (al : Option Addr) (cl : Nat), k ≤ m ∧ i = .int .i64 k ∧ l10 = .slice al left.length cl ∧ l12 = .slice aw want.length cw ∧ l13 = .slice ao words.length co ∧ WantR w q ls (some ⟨ga, oa, none⟩) cn k want words left aw cw ao co al cl wr) (fun _ _ _ i _ => m - (intOf i).toNat)
            case atStart => exact ⟨0, [], [], ls, none, 0, none, 0, al, cl, by omega, rfl, rfl, rfl, rfl, H'⟩
            case round =>
              clear H'
              obtain ⟨k, want, words, left, aw, cw, ao, co, al, cl, hk, rfl, rfl, rfl, rfl, hd, hwl, hwb, H⟩ := hrel
              by_cases hlt : (k : Int) < m
              · obtain ⟨ha, hxk, hxw⟩ := hcell k (by omega)
                clear ha
                have hcx := (H.below.cell (World.block_lt_of_cell? w _ hxk)).trans hxk
                have hvb := bounds_u64 hxw
                have HXK := Lib.hid hxk
                clear hxk hxw
                have hwlen := drawn_length (ws := words) (left := ls) (by omega)
                have hperm := (drawn_perm (ws := words) (left := ls) (by omega)).length_eq
                rw [hd] at hwlen hperm
                rw [List.length_append] at hperm
                simp only at hwlen hperm
                have hlk : left.length + k = ls.length := by omega
                have hl0 : ¬ (left.length : Int) = 0 := by omega
                have hll16 : (left.length : Int) ≤ 16 := by omega
                have HWL := Lib.hid hwl
                have HWN := Lib.hid hwlen
                clear hperm hwl hwlen
                obtain ⟨sh, hsh⟩ : ∃ sh : Int, v k / 4294967296 = sh := ⟨_, rfl⟩
                obtain ⟨x8, hx8, hx8a, hx8b⟩ : ∃ x8 : Int, bits .and .u64 (v k) 7 = x8 ∧ 0 ≤ x8 ∧ x8 ≤ 7 := ⟨v k % 8, bits_and_low_u (v k) 3 (by omega), by omega, by omega⟩
                obtain ⟨r, hr, hrl⟩ := place (w := sh) (n := left.length) (by omega)
                obtain ⟨gl, ol, rfl⟩ := lrow_place H 2 rfl (by omega)
                have hcl : wr.cell? ⟨gl, ol + r, none⟩ = some (.int .u16 (gz left r)) := by
                  simpa using lrow_cell el_a (j := 0) H 2 rfl (gz_get hrl) rfl
                have hp8a : 0 ≤ (left.length : Int) * x8 := Int.mul_nonneg (by omega) hx8a
                have hp8b : (left.length : Int) * x8 ≤ 16 * 7 := Int.mul_le_mul hll16 hx8b hx8a (by omega)
                have hword : ((r : Int) + (left.length : Int) * x8) % (left.length : Int) = r := by
                  rw [Int.add_mul_emod_self_left]
                  exact Int.emod_eq_of_lt (by omega) (by omega)
                obtain ⟨p8, hp8⟩ : ∃ p8 : Int, (left.length : Int) * x8 = p8 := ⟨_, rfl⟩
                rw [hp8] at hp8a hp8b hword
                have hd2 : drawn (words ++ [(r : Int) + p8]) ls = (want ++ [gz left r], left.eraseIdx r) := by
                  rw [drawn_snoc, hd]
                  unfold lstep
                  rw [hword, Int.toNat_natCast]
                have HD2 := Lib.hid hd2
                have HWB := Lib.hid hwb
                have HEL := Lib.hid (show (left.eraseIdx r).length = left.length - 1 by rw [List.length_eraseIdx, if_pos hrl])
                have HER := Lib.hid (List.eraseIdx_eq_take_drop_succ (l := left) (i := r))
                have hcap : left.length ≤ cl := by
                  have h := H.pull 2 rfl
                  unfold lrow at h
                  obtain ⟨_, _, h, _⟩ := At.rows_blk h
                  exact h
                have hrl2 : (r : Int) < left.length := by omega
                have p1 : (r : Int) + 1 ≤ left.length := by omega
                have p2 : (r : Int) ≤ (r : Int) + 1 := by omega
                have p4 : r ≤ cl := by omega
                have p5 : (r : Int) ≤ cl := by omega
                have p6 : IntKind.i64.wrap ((r : Int) + 1) = (r : Int) + 1 := by rw [IntKind.wrap_i64]; omega
                have hwant : want.length ≤ 16 := by have := HWN.out; have := HWL.out; omega
                have hwords : words.length ≤ 16 := by have := HWL.out; omega
                have hleft : left.length ≤ 16 := by omega
                clear hd hd2 hwb hword
                go_wp2_with ((with_reducible refine wpList_op rfl ?_); intro _ hK; first | (refine wp_lbuild el_a (y := gz left r) _ under_Addrs _ rfl rfl rfl (by omega) (by omega) H (fun C w' H => hK _ _ ?_)) | (refine wp_lapp_one el_a (y := gz left r) _ under_Addrs _ _ rfl rfl (H.pull 1 rfl) rfl 0 rfl rfl (by simp only [maxLen]; omega) (by omega) (fun b7 c7 w' H => hK _ _ ?_)) | (refine wp_get 31 _ rfl rfl (by kernel_rfl) ((H.below.cell (World.block_lt_of_cell? w _ HXK.out)).trans HXK.out) (hK _ _ ?_)) | (refine wp_lbuild el_w (y := (r : Int) + p8) _ under_words _ rfl rfl rfl (by omega) (by omega) H (fun D w' H => hK _ _ ?_)) | (refine wp_lapp_one el_w (y := (r : Int) + p8) _ under_words _ _ rfl rfl (H.pull 3 rfl) rfl 0 rfl rfl (by simp only [maxLen]; omega) (by omega) (fun b8 c8 w' H => hK _ _ ?_)))
                by_cases hce : cl = r + 1
                · have hdn : left.drop (r + 1) = [] := List.drop_of_length_le (by omega)
                  have HDR := Lib.hid hdn
                  have hlen00 : left.length - (r + 1) = 0 := by omega
                  subst hce
                  clear hdn
                  refine wpL_begin 10 (At w [lrow 31 1 (ic .u64) (.slice b8 (words ++ [(r : Int) + p8]).length c8) (words ++ [(r : Int) + p8]), raw D (ic .u64 ((r : Int) + p8)).toArray 31, lrow 25 1 (ic .u16) (.slice b7 (want ++ [gz left r]).length c7) (want ++ [gz left r]), raw C (ic .u16 (gz left r)).toArray 25, lrow 25 1 (ic .u16) (.slice (some ⟨gl, ol, none⟩) left.length (r + 1)) left, lrow 25 1 (ic .u16) (.slice (some ⟨ga, oa, none⟩) (nrow q).length cn) (nrow q)]) [(1, true), (2, true), (3, true), (5, true), (6, true), (7, true), (8, true), (0, false), (4, false), (9, false), (10, false)] rfl (by kernel_rfl) (by kernel_rfl) ((H.drew)) ?_
                  intro ops hOps hS
                  replace H := H.drew
                  refine wpL_take hOps hS rfl (fun _ _ _ h => h) (yl_move rfl _ rfl) ?_
                  simp only [Act.put, Act.eval, List.setIfInBounds_toArray, List.set_cons_zero, List.set_cons_succ, Array.getD_eq_getD_getElem?, List.getElem?_toArray, List.getElem?_cons_zero, List.getElem?_cons_succ, Option.getD_some]
                  refine wpL_take hOps hS rfl (fun _ _ _ h => h) (yl_move rfl _ rfl) ?_
                  simp only [Act.put, Act.eval, List.setIfInBounds_toArray, List.set_cons_zero, List.set_cons_succ, Array.getD_eq_getD_getElem?, List.getElem?_toArray, List.getElem?_cons_zero, List.getElem?_cons_succ, Option.getD_some]
                  refine wpL_take hOps hS (v := ?vOp14) rfl (fun _ _ _ h => h) (yl rfl ?yOp14) ?_
                  case yOp14 => (intro w hw; go_simp; first | done | rfl)
                  simp only [Act.put, Act.eval, List.setIfInBounds_toArray, List.set_cons_zero, List.set_cons_succ, Array.getD_eq_getD_getElem?, List.getElem?_toArray, List.getElem?_cons_zero, List.getElem?_cons_succ, Option.getD_some]
                  refine wpL_take hOps hS rfl (fun _ _ _ h => h) (yl_move rfl _ rfl) ?_
                  simp only [Act.put, Act.eval, List.setIfInBounds_toArray, List.set_cons_zero, List.set_cons_succ, Array.getD_eq_getD_getElem?, List.getElem?_toArray, List.getElem?_cons_zero, List.getElem?_cons_succ, Option.getD_some]
                  refine wpL_take hOps hS rfl (fun _ _ _ h => h) (yl_move rfl _ rfl) ?_
                  simp only [Act.put, Act.eval, List.setIfInBounds_toArray, List.set_cons_zero, List.set_cons_succ, Array.getD_eq_getD_getElem?, List.getElem?_toArray, List.getElem?_cons_zero, List.getElem?_cons_succ, Option.getD_some]
                  refine wpL_take hOps hS (v := ?vOp22) rfl (fun _ _ _ h => h) (yl rfl ?yOp22) ?_
                  case yOp22 => (intro w hw; go_simp; first | done | rfl)
                  simp only [Act.put, Act.eval, List.setIfInBounds_toArray, List.set_cons_zero, List.set_cons_succ, Array.getD_eq_getD_getElem?, List.getElem?_toArray, List.getElem?_cons_zero, List.getElem?_cons_succ, Option.getD_some]
                  refine wpL_take hOps hS (v := ?vOp24) rfl (fun _ _ _ h => h) (yl rfl ?yOp24) ?_
                  case yOp24 => (intro w hw; go_simp; first | done | rfl)
                  simp only [Act.put, Act.eval, List.setIfInBounds_toArray, List.set_cons_zero, List.set_cons_succ, Array.getD_eq_getD_getElem?, List.getElem?_toArray, List.getElem?_cons_zero, List.getElem?_cons_succ, Option.getD_some]
                  refine wpL_next hOps rfl rfl ?_
                  intro K hK
                  refine wp_lnew el_a _ under_Addrs rfl H (fun B' w' H => ?_)
                  have hS := (H.tail)
                  refine hK _ _ hS ?_
                  clear hK K
                  simp only [Act.put, Act.eval, List.setIfInBounds_toArray, List.set_cons_zero, List.set_cons_succ, Array.getD_eq_getD_getElem?, List.getElem?_toArray, List.getElem?_cons_zero, List.getElem?_cons_succ, Option.getD_some]
                  refine wpL_next hOps rfl rfl ?_
                  intro K hK
                  refine wp_lapp el_a (xs := []) (ys := left.take r) _ _ under_Addrs (.inl ⟨_, under_Addrs⟩) _ _ rfl rfl H rfl (lrow_src_take el_a H 5 rfl r _ (by omega)) (by simp [maxLen]; omega) (by simp; omega) (fun b1 c1 w' H => ?_)
                  have hS := (H.tail)
                  refine hK _ _ hS ?_
                  clear hK K
                  simp only [Act.put, Act.eval, List.setIfInBounds_toArray, List.set_cons_zero, List.set_cons_succ, Array.getD_eq_getD_getElem?, List.getElem?_toArray, List.getElem?_cons_zero, List.getElem?_cons_succ, Option.getD_some]
                  refine wpL_next hOps rfl rfl ?_
                  intro K hK
                  have hsrc := lrow_src_drop el_a H 5 rfl (r + 1) ((r + 1) - (r + 1)) (by omega)
                  rw [Nat.mul_one] at hsrc
                  refine wp_lapp el_a (xs := [] ++ left.take r) (ys := ([] : List Int)) _ _ under_Addrs (.inl ⟨_, under_Addrs⟩) _ _ rfl rfl H rfl (by first | exact lrow_src_zero _ _ | (rw [hlen00]; exact lrow_src_zero _ _)) (by simp [maxLen]; omega) (by simp; omega) (fun b2 c2 w' H => ?_)
                  have hS := (H.tail)
                  refine hK _ _ hS ?_
                  clear hK K
                  simp only [Act.put, Act.eval, List.setIfInBounds_toArray, List.set_cons_zero, List.set_cons_succ, Array.getD_eq_getD_getElem?, List.getElem?_toArray, List.getElem?_cons_zero, List.getElem?_cons_succ, Option.getD_some]
                  refine wpL_last hOps rfl rfl ?_
                  intro K hK
                  refine wp_run rfl ?_
                  refine hK _ _ ?_
                  clear hK K hOps hS ops
                  simp only [Act.put, Act.eval, List.setIfInBounds_toArray, List.set_cons_zero, List.set_cons_succ, Array.getD_eq_getD_getElem?, List.getElem?_toArray, List.getElem?_cons_zero, List.getElem?_cons_succ, Option.getD_some]
                  have hle2 : ([] ++ left.take r ++ ([] : List Int)) = left.eraseIdx r := by rw [HER.out]; first | rfl | (rw [HDR.out]; rfl)
                  rw [hle2] at H ⊢
                  go_wp2
                  first
                    | (refine ⟨?_, ?measure⟩; iterate 60 (try apply Exists.intro); refine ⟨?rel, rfl⟩)
                    | refine ⟨?rel, ?measure⟩
                  case rel => exact ⟨k + 1, want ++ [gz left r], words ++ [(r : Int) + p8], left.eraseIdx r, b7, c7, b8, c8, b2, c2, by omega, by go_num, rfl, by simp, by simp, HD2.out, by have := HWL.out; rw [List.length_append]; simp only [List.length_cons, List.length_nil]; omega, fun x hx => by
                    rcases List.mem_append.1 hx with h | h
                    · exact HWB.out x h
                    · rw [List.mem_singleton.1 h]; omega, ((((((((((H).pull 5 rfl).pull 5 rfl).pull 4 rfl).pull 6 rfl).pull 4 rfl).pull 5 rfl).pull 6 rfl).mask [true, true, true, true, true, true, true])).mask [true, true, true, true]⟩
                  case measure => simp [intOf]; omega
                · have HDR := Lib.hid trivial
                  refine wpL_begin 10 (At w [lrow 31 1 (ic .u64) (.slice b8 (words ++ [(r : Int) + p8]).length c8) (words ++ [(r : Int) + p8]), raw D (ic .u64 ((r : Int) + p8)).toArray 31, lrow 25 1 (ic .u16) (.slice b7 (want ++ [gz left r]).length c7) (want ++ [gz left r]), raw C (ic .u16 (gz left r)).toArray 25, lrow 25 1 (ic .u16) (.slice (some ⟨gl, ol, none⟩) left.length cl) left, lrow 25 1 (ic .u16) (.slice (some ⟨ga, oa, none⟩) (nrow q).length cn) (nrow q)]) [(1, true), (2, true), (3, true), (5, true), (6, true), (7, true), (8, true), (0, false), (4, false), (9, false), (10, false)] rfl (by kernel_rfl) (by kernel_rfl) ((H.drew)) ?_
                  intro ops hOps hS
                  replace H := H.drew
                  refine wpL_take hOps hS rfl (fun _ _ _ h => h) (yl_move rfl _ rfl) ?_
                  simp only [Act.put, Act.eval, List.setIfInBounds_toArray, List.set_cons_zero, List.set_cons_succ, Array.getD_eq_getD_getElem?, List.getElem?_toArray, List.getElem?_cons_zero, List.getElem?_cons_succ, Option.getD_some]
                  refine wpL_take hOps hS rfl (fun _ _ _ h => h) (yl_move rfl _ rfl) ?_
                  simp only [Act.put, Act.eval, List.setIfInBounds_toArray, List.set_cons_zero, List.set_cons_succ, Array.getD_eq_getD_getElem?, List.getElem?_toArray, List.getElem?_cons_zero, List.getElem?_cons_succ, Option.getD_some]
                  refine wpL_take hOps hS (v := ?vOp47) rfl (fun _ _ _ h => h) (yl rfl ?yOp47) ?_
                  case yOp47 => (intro w hw; go_simp; first | done | rfl)
                  simp only [Act.put, Act.eval, List.setIfInBounds_toArray, List.set_cons_zero, List.set_cons_succ, Array.getD_eq_getD_getElem?, List.getElem?_toArray, List.getElem?_cons_zero, List.getElem?_cons_succ, Option.getD_some]
                  refine wpL_take hOps hS rfl (fun _ _ _ h => h) (yl_move rfl _ rfl) ?_
                  simp only [Act.put, Act.eval, List.setIfInBounds_toArray, List.set_cons_zero, List.set_cons_succ, Array.getD_eq_getD_getElem?, List.getElem?_toArray, List.getElem?_cons_zero, List.getElem?_cons_succ, Option.getD_some]
                  refine wpL_take hOps hS rfl (fun _ _ _ h => h) (yl_move rfl _ rfl) ?_
                  simp only [Act.put, Act.eval, List.setIfInBounds_toArray, List.set_cons_zero, List.set_cons_succ, Array.getD_eq_getD_getElem?, List.getElem?_toArray, List.getElem?_cons_zero, List.getElem?_cons_succ, Option.getD_some]
                  refine wpL_take hOps hS (v := ?vOp55) rfl (fun _ _ _ h => h) (yl rfl ?yOp55) ?_
                  case yOp55 => (intro w hw; go_simp; first | done | rfl)
                  simp only [Act.put, Act.eval, List.setIfInBounds_toArray, List.set_cons_zero, List.set_cons_succ, Array.getD_eq_getD_getElem?, List.getElem?_toArray, List.getElem?_cons_zero, List.getElem?_cons_succ, Option.getD_some]
                  refine wpL_take hOps hS (v := ?vOp57) rfl (fun _ _ _ h => h) (yl rfl ?yOp57) ?_
                  case yOp57 => (intro w hw; go_simp; first | done | rfl)
                  simp only [Act.put, Act.eval, List.setIfInBounds_toArray, List.set_cons_zero, List.set_cons_succ, Array.getD_eq_getD_getElem?, List.getElem?_toArray, List.getElem?_cons_zero, List.getElem?_cons_succ, Option.getD_some]
                  refine wpL_next hOps rfl rfl ?_
                  intro K hK
                  refine wp_lnew el_a _ under_Addrs rfl H (fun B' w' H => ?_)
                  have hS := (H.tail)
                  refine hK _ _ hS ?_
                  clear hK K
                  simp only [Act.put, Act.eval, List.setIfInBounds_toArray, List.set_cons_zero, List.set_cons_succ, Array.getD_eq_getD_getElem?, List.getElem?_toArray, List.getElem?_cons_zero, List.getElem?_cons_succ, Option.getD_some]
                  refine wpL_next hOps rfl rfl ?_
                  intro K hK
                  refine wp_lapp el_a (xs := []) (ys := left.take r) _ _ under_Addrs (.inl ⟨_, under_Addrs⟩) _ _ rfl rfl H rfl (lrow_src_take el_a H 5 rfl r _ (by omega)) (by simp [maxLen]; omega) (by simp; omega) (fun b1 c1 w' H => ?_)
                  have hS := (H.tail)
                  refine hK _ _ hS ?_
                  clear hK K
                  simp only [Act.put, Act.eval, List.setIfInBounds_toArray, List.set_cons_zero, List.set_cons_succ, Array.getD_eq_getD_getElem?, List.getElem?_toArray, List.getElem?_cons_zero, List.getElem?_cons_succ, Option.getD_some]
                  refine wpL_next hOps rfl rfl ?_
                  intro K hK
                  have hsrc := lrow_src_drop el_a H 5 rfl (r + 1) (cl - (r + 1)) (by omega)
                  rw [Nat.mul_one] at hsrc
                  refine wp_lapp el_a (xs := [] ++ left.take r) (ys := (left.drop (r + 1))) _ _ under_Addrs (.inl ⟨_, under_Addrs⟩) _ _ rfl rfl H rfl (hsrc) (by simp [maxLen]; omega) (by simp; omega) (fun b2 c2 w' H => ?_)
                  have hS := (H.tail)
                  refine hK _ _ hS ?_
                  clear hK K
                  simp only [Act.put, Act.eval, List.setIfInBounds_toArray, List.set_cons_zero, List.set_cons_succ, Array.getD_eq_getD_getElem?, List.getElem?_toArray, List.getElem?_cons_zero, List.getElem?_cons_succ, Option.getD_some]
                  refine wpL_last hOps rfl rfl ?_
                  intro K hK
                  refine wp_run rfl ?_
                  refine hK _ _ ?_
                  clear hK K hOps hS ops
                  simp only [Act.put, Act.eval, List.setIfInBounds_toArray, List.set_cons_zero, List.set_cons_succ, Array.getD_eq_getD_getElem?, List.getElem?_toArray, List.getElem?_cons_zero, List.getElem?_cons_succ, Option.getD_some]
                  have hle2 : ([] ++ left.take r ++ (left.drop (r + 1))) = left.eraseIdx r := by rw [HER.out]; first | rfl | (rw [HDR.out]; rfl)
                  rw [hle2] at H ⊢
                  go_wp2
                  first
                    | (refine ⟨?_, ?measure⟩; iterate 60 (try apply Exists.intro); refine ⟨?rel, rfl⟩)
                    | refine ⟨?rel, ?measure⟩
                  case rel => exact ⟨k + 1, want ++ [gz left r], words ++ [(r : Int) + p8], left.eraseIdx r, b7, c7, b8, c8, b2, c2, by omega, by go_num, rfl, by simp, by simp, HD2.out, by have := HWL.out; rw [List.length_append]; simp only [List.length_cons, List.length_nil]; omega, fun x hx => by
                    rcases List.mem_append.1 hx with h | h
                    · exact HWB.out x h
                    · rw [List.mem_singleton.1 h]; omega, ((((((((((H).pull 5 rfl).pull 5 rfl).pull 4 rfl).pull 6 rfl).pull 4 rfl).pull 5 rfl).pull 6 rfl).mask [true, true, true, true, true, true, true])).mask [true, true, true, true]⟩
                  case measure => simp [intOf]; omega
              · have hkm : k = m := by omega
                subst hkm
                have hwlen := drawn_length (ws := words) (left := ls) (by omega)
                rw [hd] at hwlen
                simp only at hwlen
                have hok := every_ok (n := q) (nw := words.length) (hops := (k : Int) + 1) (last := last) (by omega) (by omega) (by omega) (by omega) HMEM.out (by omega)
                have hR : drawR words (nrow q) ((k : Int) + 1) last = want ++ [last] := by
                  unfold drawR
                  rw [if_pos hok, show ((k : Int) + 1 - 1).toNat = k by omega, List.take_of_length_le (by omega), ← HLS2.out, hd]
                have HOK := Lib.hid hok
                have HR := Lib.hid hR
                have HWB := Lib.hid hwb
                have HWN := Lib.hid hwlen
                have hwant : want.length ≤ 16 := by omega
                clear hok hR hwb hd hwl hwlen hcell
                go_wp2_with ((with_reducible refine wpList_op rfl ?_); intro _ hK; first | (refine wp_lbuild el_a (y := last) _ under_Addrs _ rfl rfl rfl (by omega) (by omega) H (fun C w' H => hK _ _ ?_)) | (refine wp_lapp_one el_a (y := last) _ under_Addrs _ _ rfl rfl (H.pull 1 rfl) rfl 0 rfl rfl (by simp only [maxLen]; omega) (by omega) (fun b7 c7 w' H => hK _ _ ?_)))
                refine (draw_c H (sees_own el_w H 2 rfl) (sees_own_n el_a H 4 rfl _ HJL.out) HWB.out (by omega) ((k : Int) + 1) last).mono ?_; rintro e w' ⟨rb, rd, rfl, H⟩
                rw [HR.out] at H
                rw [HR.out, HOK.out]
                go_wp2_with fail
                refine (same_c (xs := want ++ [last]) H (sees_own_n el_a H 0 rfl _ (by simp)) (sees_own_n el_a H 1 rfl _ (by simp)) (by simp; omega)).mono ?_; rintro e w' ⟨rfl, H⟩
                go_wp2
                go_ret
                exact ⟨by first | rfl | simp, H.below⟩
      · obtain ⟨last, hlast⟩ : ∃ last, last = gz (nrow j) (j - 1) := ⟨_, rfl⟩
        have hmem : last ∈ nrow j := by rw [hlast]; exact gz_mem (by omega)
        rw [← hlast] at hclast
        clear hlast
        go_wp2_with ((with_reducible refine wpList_op rfl ?_); intro _ hK; first | (refine wp_min3 _ _ _ _ rfl rfl rfl rfl HH.out.symm (hK _ _ ?_)))
        have HMEM := Lib.hid hmem
        have hj16 : (nrow j).length ≤ 16 := by omega
        have HJL := Lib.hid hjl
        have hjl' : ((nrow j).length : Int) = j := by omega
        clear hmem hclast hjm1 hjm2 hjl
        have H' : LeftR w j last (some ⟨ga, oa, none⟩) cn 0 none 0 [] wr := ⟨rfl, by simp, lrow_nil H (ic .u16) 25 1⟩
        clear H
        go_loopw [10, 11] (fun s i wr => ∃ (q : Nat) (ls : List Int) (al : Option Addr) (cl : Nat), q ≤ j ∧ i = .int .i64 q ∧ s = .slice al ls.length cl ∧ LeftR w j last (some ⟨ga, oa, none⟩) cn q al cl ls wr) (fun _ i _ => j - (intOf i).toNat)
        case atStart => exact ⟨0, [], none, 0, by omega, rfl, rfl, H'⟩
        case round =>
          clear H'
          obtain ⟨q, ls, al, cl, hq, rfl, rfl, hls, hll, H⟩ := hrel
          have HLS := Lib.hid hls
          have HLL := Lib.hid hll
          clear hls
          by_cases hlt : (q : Int) < j
          · have hcq : wr.cell? ⟨ga, oa + q, none⟩ = some (.int .u16 (gz (nrow j) q)) := by
              simpa using lrow_cell el_a (j := 0) H 1 rfl (gz_get (xs := nrow j) (i := q) (by have := HJL.out; omega)) rfl
            have hsn := others_snoc (last := last) (ys := nrow j) (j := q) (by have := HJL.out; omega)
            by_cases he : gz (nrow j) q = last
            · rw [if_pos he, List.append_nil] at hsn
              have HSN := Lib.hid hsn
              rw [he] at hcq
              clear hsn he
              go_wp2
              first
                | (refine ⟨?_, ?measure⟩; iterate 60 (try apply Exists.intro); refine ⟨?rel, rfl⟩)
                | refine ⟨?rel, ?measure⟩
              case rel => exact ⟨q + 1, ls, al, cl, by omega, by go_num, rfl, by rw [HSN.out]; exact HLS.out, by have := HLL.out; omega, H⟩
              case measure => simp [intOf]; omega
            · rw [if_neg he] at hsn
              have HSN := Lib.hid hsn
              have hll6 : ls.length ≤ 16 := by omega
              obtain ⟨c, hc⟩ : ∃ c, c = gz (nrow j) q := ⟨_, rfl⟩
              rw [← hc] at hcq he
              have HC := Lib.hid hc
              clear hsn hc hll
              go_wp2_with ((with_reducible refine wpList_op rfl ?_); intro _ hK; first | (refine wp_lbuild el_a (y := c) _ under_Addrs _ rfl rfl rfl (by omega) (by omega) H (fun C w' H => hK _ _ ?_)) | (refine wp_lapp_one el_a (y := c) _ under_Addrs _ _ rfl rfl (H.pull 1 rfl) rfl 0 rfl rfl (by simp only [maxLen]; omega) (by omega) (fun bb cc w' H => hK _ _ ?_)))
              first
                | (refine ⟨?_, ?measure⟩; iterate 60 (try apply Exists.intro); refine ⟨?rel, rfl⟩)
                | refine ⟨?rel, ?measure⟩
              case rel => exact ⟨q + 1, ls ++ [c], bb, cc, by omega, by go_num, by simp, by rw [HSN.out, ← HLS.out, ← HC.out], by have := HLL.out; rw [List.length_append]; simp only [List.length_cons, List.length_nil]; omega, H.maskR [true, false, true]⟩
              case measure => simp [intOf]; omega
          · have hqj : q = j := by omega
            subst hqj
            have hls := HLS.out
            rw [List.take_of_length_le (by rw [HJL.out]; exact Nat.le_refl _)] at hls
            have hL1 := others_length (rises_nodup (nrow_rises q)) HMEM.out
            rw [← hls, HJL.out] at hL1
            have HLS2 := Lib.hid hls
            clear hls hll hq hlt HLS HLL
            have H' : WantR w q ls (some ⟨ga, oa, none⟩) cn 0 [] [] ls none 0 none 0 al cl wr := ⟨rfl, rfl, fun x h => by simp at h, lrow_nil (lrow_nil H (ic .u64) 31 1) (ic .u16) 25 1⟩
            clear H
            have hq1 : ls.length + 1 = q := hL1
            clear hL1
            go_wp2_with fail
            go_loopw [10, 12, 13, 14] (fun l10 l12 l13 i wr => ∃ (k : Nat) (want words left : List Int) (aw : Option Addr) (cw : Nat) (ao : Option Addr) (co : Nat) (al : Option Addr) (cl : Nat), k ≤ m ∧ i = .int .i64 k ∧ l10 = .slice al left.length cl ∧ l12 = .slice aw want.length cw ∧ l13 = .slice ao words.length co ∧ WantR w q ls (some ⟨ga, oa, none⟩) cn k want words left aw cw ao co al cl wr) (fun _ _ _ i _ => m - (intOf i).toNat)
            case atStart => exact ⟨0, [], [], ls, none, 0, none, 0, al, cl, by omega, rfl, rfl, rfl, rfl, H'⟩
            case round =>
              clear H'
              obtain ⟨k, want, words, left, aw, cw, ao, co, al, cl, hk, rfl, rfl, rfl, rfl, hd, hwl, hwb, H⟩ := hrel
              by_cases hlt : (k : Int) < m
              · exfalso
                omega
              · have hkm : k = m := by omega
                subst hkm
                have hwlen := drawn_length (ws := words) (left := ls) (by omega)
                rw [hd] at hwlen
                simp only at hwlen
                have hok := every_ok (n := q) (nw := words.length) (hops := (k : Int) + 1) (last := last) (by omega) (by omega) (by omega) (by omega) HMEM.out (by omega)
                have hR : drawR words (nrow q) ((k : Int) + 1) last = want ++ [last] := by
                  unfold drawR
                  rw [if_pos hok, show ((k : Int) + 1 - 1).toNat = k by omega, List.take_of_length_le (by omega), ← HLS2.out, hd]
                have HOK := Lib.hid hok
                have HR := Lib.hid hR
                have HWB := Lib.hid hwb
                have HWN := Lib.hid hwlen
                have hwant : want.length ≤ 16 := by omega
                clear hok hR hwb hd hwl hwlen hcell
                go_wp2_with ((with_reducible refine wpList_op rfl ?_); intro _ hK; first | (refine wp_lbuild el_a (y := last) _ under_Addrs _ rfl rfl rfl (by omega) (by omega) H (fun C w' H => hK _ _ ?_)) | (refine wp_lapp_one el_a (y := last) _ under_Addrs _ _ rfl rfl (H.pull 1 rfl) rfl 0 rfl rfl (by simp only [maxLen]; omega) (by omega) (fun b7 c7 w' H => hK _ _ ?_)))
                refine (draw_c H (sees_own el_w H 2 rfl) (sees_own_n el_a H 4 rfl _ HJL.out) HWB.out (by omega) ((k : Int) + 1) last).mono ?_; rintro e w' ⟨rb, rd, rfl, H⟩
                rw [HR.out] at H
                rw [HR.out, HOK.out]
                go_wp2_with fail
                refine (same_c (xs := want ++ [last]) H (sees_own_n el_a H 0 rfl _ (by simp)) (sees_own_n el_a H 1 rfl _ (by simp)) (by simp; omega)).mono ?_; rintro e w' ⟨rfl, H⟩
                go_wp2
                go_ret
                exact ⟨by first | rfl | simp, H.below⟩
theorem routeEvery_own : ownKnob Try.prog.godebug = none := by kernel_rfl
theorem routeEvery_laid : laidOutB Try.prog = true := by kernel_rfl
set_option maxRecDepth 100000 in
theorem routeEvery_lifted (os : Os) (started : os.Started) (H : Type) (enc : TypeId × Value → H) :
    ReturnsInHanded {} Try.checked os 5 .any (Rows.routeEverySpec.pre6 enc Try.prog Try.f5 Rows.routeEveryRow.domain false) (Rows.routeEverySpec.post enc Try.prog Try.f5 false true false false) := by
  refine returnsInHanded_of_change_sized (C := Try.checked) routeEvery_own started (by kernel_rfl) Try.func5
    (ChangeSpec.witness6 (enc := enc) (C := Try.checked) false ⟨#[], #[.int .i64 0, .slice none 0 0], []⟩ 8 (by kernel_rfl) (by kernel_rfl) (by kernel_rfl) (by kernel_rfl)) ?_
  intro W base args ds gs before hval0 hW hcnd hsz0 _
  have hsz : (DataW.weightsEach Try.prog (Try.f5.params.toList ++ Rows.routeEverySpec.plain.varTypes Try.prog) (ds ++ gs)).all (· ≤ reachBytes) = true := hsz0
  clear hsz0
  have hval : ∀ (j : Nat) t v, Try.f5.params[j]? = some t → args[j]? = some v → Value.okWide Try.prog W .any base t v := hval0
  have hW' := hW
  obtain ⟨p, q, hA0, hV, rfl, hfz, hnd⟩ := hW
  have hA : DataW.TrodAll enc Try.prog W 0 (fun _ => true) true Try.f5.params.toList args.toList ds p := hA0
  rw [Try.params5] at hA hval hsz
  obtain ⟨v0, vs0, d0, ds0, p0, q0, hargs, rfl, rfl, h0, r0⟩ := trodAll_cons hA
  obtain ⟨v1, vs1, d1, ds1, p1, q1, rfl, rfl, rfl, h1, r1⟩ := trodAll_cons r0
  obtain ⟨rfl, rfl, rfl⟩ := trodAll_nil r1
  obtain rfl : args = #[v0, v1] := by cases args; simp_all
  obtain ⟨rfl, rfl⟩ := trodVars_none hV
  have k0 := h0
  have lt0 : ∀ x ∈ p0, x.block < W.heap.size := by obtain ⟨m, hm⟩ := k0; exact DataW.trod_lt m _ _ _ hm
  have k1 := h1
  have lt1 : ∀ x ∈ p1, x.block < W.heap.size := by obtain ⟨m, hm⟩ := k1; exact DataW.trod_lt m _ _ _ hm
  obtain ⟨a0, rfl, rfl, rfl, f0⟩ := open_int Try.underlying3 (hval 0 3 v0 rfl rfl) h0
  obtain ⟨a1, len1, cap1, rfl⟩ := okWide_slice Try.underlying22 (hval 1 22 v1 rfl rfl)
  have f1 : IntRow .u64 W a1 len1 ∧ len1 ≤ 140737488351232 := by
    obtain ⟨fuel, hf⟩ := h1
    rcases open_ints Try.underlying22 Try.underlying31 (by kernel_rfl) hf with ⟨hcs, _⟩ | ⟨x, l, c, zs, hcs, _, hl, hm, hz, hx, hcell, hwz⟩
    · simp [Value.cells] at hcs
      obtain ⟨rfl, rfl, rfl⟩ := hcs
      exact ⟨intRow_of (cap := 0) (zs := []) (.inl ⟨rfl, rfl⟩), by omega⟩
    · simp [Value.cells] at hcs
      obtain ⟨rfl, rfl, rfl⟩ := hcs
      have hz2 : zs.length = cap1 := by simpa using hz
      refine ⟨intRow_of (.inr ⟨_, rfl, hl, hm, hz2, hcell, hwz⟩), ?_⟩
      simp only [Prod.mk.injEq] at hx
      have hs := sized_slice hsz (j := 1) (t := 22) (e := 31) (elems := lits .u64 (zs.take len1)) (spare := lits .u64 (zs.drop len1)) rfl (by rw [hx.1]; rfl) Try.underlying22
      have hby : 1 ≤ Try.prog.bytesOf 31 := of_decide_eq_true (by kernel_rfl)
      have hle := Nat.le_mul_of_pos_right ((lits (H := H) .u64 (zs.take len1)).length + (lits (H := H) .u64 (zs.drop len1)).length) hby
      simp only [lits, List.length_map, List.length_take, List.length_drop, reachBytes] at hs hle
      omega
  clear hA0 hval0 hsz
  refine (routeEvery_walk a0 a1 len1 cap1 W f0 f1).mono fun e W' ⟨he, bel⟩ => ?_
  subst he
  exact ⟨_, rfl, _, _, _, [], _, [], hW', trodAll_mk1 (shut_bool Try.underlying4 _), (trodAll_cons_mk (Below.trod routeEvery_laid (by kernel_rfl) (of_decide_eq_true (by kernel_rfl)) k0 bel lt0) (trodAll_cons_mk (Below.trod routeEvery_laid (by kernel_rfl) (of_decide_eq_true (by kernel_rfl)) k1 bel lt1) trodAll_mk0)), rfl, bel.frame _, fun h => by cases h⟩
theorem routeEvery_holds : Rows.RouteEverySaid :=
  OpenClaim.holds_of_wide 5 Try.f5 rfl rfl rfl rfl rfl rfl rfl ⟨rfl, rfl, rfl, rfl, rfl⟩ rfl rfl rfl rfl rfl (by kernel_rfl) Try.func5 (by kernel_rfl)
    (of_decide_eq_true (by kernel_rfl)) (by unfold Func.isWrapper; first | (rw [if_pos (by decide +kernel)]; kernel_rfl) | (rw [if_neg (by decide +kernel)]; exact ⟨rfl, rfl⟩))
    (fun os started H enc _ => routeEvery_lifted os started H enc)
#print axioms routeEvery_holds
end Go.Proofs.Ytddddlphnoicpaa
