/-
  What is put is fetched once, in order, by whatever portions, and boxes have nothing to do with each other: the law answers true for every input, and its arguments read as before.
-/
import Derived.Test.YtogicnbocefkbaaLaw15
import Derived.Test.YtogicnbocefkbaaNum
import Derived.Test.YtogicnbocefkbaaBodies
import Derived.Test.YtogicnbocefkbaaSteps
import Derived.Test.YtogicnbocefkbaaFrame
namespace Go.Proofs.Ytogicnbocefkbaa
open Go.ChangeShapes Go.WideShapes Go.ChangeAt Go.RowKit Go.Hg
open Go.ChangeMaps (open_string shut_string)
set_option linter.unusedSimpArgs false
set_option linter.unusedVariables false
theorem info_arr : (Try.prog.info? 50).map (fun i => (i.zero, i.size, i.bytes)) = some (some (.agg #[.slice none 0 0, .slice none 0 0]), 2, 48) := by kernel_rfl
/-- What was put: of box 0 W0, of box 1 W1. -/
def OnceA (w0 : World) (V m : Nat) (j : Nat) (w : World) : Prop := ∃ (L : List (List Body)) (W0 W1 : List Body) (a0 : Option Addr) (c0 : Nat) (a1 : Option Addr) (c1 : Nat),
  MailOK L ∧ L.length = 2 ∧ L.getD 0 [] = W0 ∧ L.getD 1 [] = W1 ∧ W0.length ≤ j ∧ W1.length ≤ j ∧
  At w0 [raw V #[.slice a0 W0.length c0, .slice a1 W1.length c1] 50, rows 34 256 (.slice a0 W0.length c0) W0.length (bls W0), rows 34 256 (.slice a1 W1.length c1) W1.length (bls W1), mail m L] w
/-- What was got of each box, and what was put into it. -/
def OnceS (w0 : World) (T V m : Nat) (G0 G1 W0 W1 : List Body) (b0 : Option Addr) (d0 : Nat) (b1 : Option Addr) (d1 : Nat) (a0 : Option Addr) (c0 : Nat) (a1 : Option Addr) (c1 : Nat) (L : List (List Body)) (w : World) : Prop :=
  At w0 [raw T #[.slice b0 G0.length d0, .slice b1 G1.length d1] 50, rows 34 256 (.slice b0 G0.length d0) G0.length (bls G0), rows 34 256 (.slice b1 G1.length d1) G1.length (bls G1), mail m L,
    raw V #[.slice a0 W0.length c0, .slice a1 W1.length c1] 50, rows 34 256 (.slice a0 W0.length c0) W0.length (bls W0), rows 34 256 (.slice a1 W1.length c1) W1.length (bls W1)] w
/-- What was got and what is left is what was put. -/
def OnceB (w0 : World) (T V m : Nat) (W0 W1 : List Body) (a0 : Option Addr) (c0 : Nat) (a1 : Option Addr) (c1 : Nat) (w : World) : Prop := ∃ (L : List (List Body)) (G0 G1 : List Body) (b0 : Option Addr) (d0 : Nat) (b1 : Option Addr) (d1 : Nat),
  MailOK L ∧ L.length = 2 ∧ G0 ++ L.getD 0 [] = W0 ∧ G1 ++ L.getD 1 [] = W1 ∧ OnceS w0 T V m G0 G1 W0 W1 b0 d0 b1 d1 a0 c0 a1 c1 L w
theorem OnceA.mono {w0 : World} {V m j k : Nat} {w : World} (h : OnceA w0 V m j w) (hk : j ≤ k) : OnceA w0 V m k w := by
  obtain ⟨L, W0, W1, a0, c0, a1, c1, hM, hl, hg0, hg1, hw0, hw1, H⟩ := h
  exact ⟨L, W0, W1, a0, c0, a1, c1, hM, hl, hg0, hg1, by omega, by omega, H⟩
theorem once_fetch {L : List (List Body)} {G W : List Body} {k : Nat} (hM : MailOK L) (hl : L.length = 2) (hk : k < 2) (hg : G ++ L.getD k [] = W) {p : Int} (hp : 0 ≤ p) :
    ∃ X, fetchE L k p = 0 ∧ fetchX L k p = X ∧ (X.length : Int) ≤ p ∧ (fetchL L k p).length = 2 ∧ (G ++ X) ++ (fetchL L k p).getD k [] = W ∧ Full X ∧ G.length + X.length ≤ W.length ∧ (∀ b, k ≠ b → (fetchL L k p).getD b [] = L.getD b []) ∧
      (64 ≤ p → G ++ X = W ∧ lenM (fetchL L k p) k = 0) := by
  have f := fetch_facts (L := L) (k := k) (by omega) hp
  have hF := hM.getD k
  have hx : ((L.getD k []).take p.toNat).length = min p.toNat (L.getD k []).length := List.length_take
  refine ⟨(L.getD k []).take p.toNat, f.1, f.2.1, by omega, by rw [f.2.2.1, hl], by rw [f.2.2.2, List.append_assoc, List.take_append_drop, hg], hF.2.take _, ?_, fun b hb => fetch_other hb _, fun h64 => ⟨?_, ?_⟩⟩
  · rw [← hg, List.length_append]; omega
  · rw [List.take_of_length_le (by omega), hg]
  · unfold lenM; rw [f.2.2.2, List.drop_of_length_le (by omega)]; rfl
set_option maxRecDepth 20000 in
set_option maxHeartbeats 8000000 in
theorem mailboxOnce_walk (a : Option Addr) (len cap : Nat) (a2 : Option Addr) (len2 cap2 : Nat) (a3 : Option Addr) (len3 cap3 : Nat) (w : World) (h1 : StrRow w a len) (h2 : BoolRow w a2 len2) (h3 : IntRow .u8 w a3 len3) :
    Calls Try.prog 4 #[.slice a len cap, .slice a2 len2 cap2, .slice a3 len3 cap3] w fun e w' => e = .returned (.bool true) ∧ Below w.heap.size w w' := by
  obtain ⟨hlen, b, off, hcell⟩ := h1
  obtain ⟨hlen2, b2, off2, hcell2⟩ := h2
  obtain ⟨hlen3, b3, off3, hcell3⟩ := h3
  have H := At.start w
  have hM0 := MailOK.new 2
  go_enter Try.func4, Try.ntmps4
  go_wp2_with fail
  refine (shown_c H).mono ?_; rintro e w' ⟨rfl, H⟩
  go_wp2_with fail
  refine (new_c H _).mono ?_; rintro e w' ⟨m, rfl, H⟩
  go_wp2_with ((with_reducible refine wpList_op rfl ?_); intro _ hK; refine wp_alloc_sl _ rfl info_arr H (fun V w' (H : At w [raw V #[.slice none 0 0, .slice none 0 0] 50, _] w') _ => hK _ _ ?_))
  rename_i K hK
  have tail : ∀ {u3 u4 u5 u6 u10 u11 u12 u13 u14 u15 u16 u17 u18 u19 u20 u21 u22 u23 u24 u25 u26 u27 u28 u29 u30 u31 u32 u33 u34 u35 u36 u37 u38 u39 u40 u41 u42 u43 u44 u45 u46 u47 u48 u49 u50 u51 u52 u53 u54 u55 u56 u57 u58 u59 u60 u61 u62 u63 u64 u65 u66 u67 u68 u69 u70 u71 u72 u73 u74 u75 u76 u77 u78 u79 u80 u81 u82 u83 u84 u85 u86 u87 u88 u89 u90 u91 u92 u93 u94 u95 u96 u97 u98 u99 u100 u101 u102 u103 u104 u105 u106 u107 u108 u109 u110 u111 u112 u113 u114 u115 u116 u117 u118 u119 u120 u121 u122 u123 u124 u125 u126 u127 u128 u129 u130 u131 u132 u133 u134 u135 u136 u137 u138 u139 u140 u141 u142 u143 u144 u145 u146 u147 u148 u149 u150 u151 u152 u153 u154 u155 u156 u157 u158 u159 u160 u161 u162 u163 u164 u165 u166 u167 u168 u169 u170 u171 : Value} {wr : World}, OnceA w V m 60 wr → K ⟨#[.slice a len cap, .slice a2 len2 cap2, .slice a3 len3 cap3, u3, u4, u5, u6, .bool true, .pointer (some ⟨m, 0, none⟩), .pointer (some ⟨V, 0, none⟩), u10, u11, u12, u13, u14, u15, u16, u17, u18, u19, u20, u21, u22, u23, u24, u25, u26, u27, u28, u29, u30, u31, u32, u33, u34, u35, u36, u37, u38, u39, u40, u41, u42, u43, u44, u45, u46, u47, u48, u49, u50, u51, u52, u53, u54, u55, u56, u57, u58, u59, u60, u61, u62, u63, u64, u65, u66, u67, u68, u69, u70, u71, u72, u73, u74, u75, u76, u77, u78, u79, u80, u81, u82, u83, u84, u85, u86, u87, u88, u89, u90, u91, u92, u93, u94, u95, u96, u97, u98, u99, u100, u101, u102, u103, u104, u105, u106, u107, u108, u109, u110, u111, u112, u113, u114, u115, u116, u117, u118, u119, u120, u121, u122, u123, u124, u125, u126, u127, u128, u129, u130, u131, u132, u133, u134, u135, u136, u137, u138, u139, u140, u141, u142, u143, u144, u145, u146, u147, u148, u149, u150, u151, u152, u153, u154, u155, u156, u157, u158, u159, u160, u161, u162, u163, u164, u165, u166, u167, u168, u169, u170, u171], []⟩ wr := by
    clear H hM0 hcell hcell2
    intro u3 u4 u5 u6 u10 u11 u12 u13 u14 u15 u16 u17 u18 u19 u20 u21 u22 u23 u24 u25 u26 u27 u28 u29 u30 u31 u32 u33 u34 u35 u36 u37 u38 u39 u40 u41 u42 u43 u44 u45 u46 u47 u48 u49 u50 u51 u52 u53 u54 u55 u56 u57 u58 u59 u60 u61 u62 u63 u64 u65 u66 u67 u68 u69 u70 u71 u72 u73 u74 u75 u76 u77 u78 u79 u80 u81 u82 u83 u84 u85 u86 u87 u88 u89 u90 u91 u92 u93 u94 u95 u96 u97 u98 u99 u100 u101 u102 u103 u104 u105 u106 u107 u108 u109 u110 u111 u112 u113 u114 u115 u116 u117 u118 u119 u120 u121 u122 u123 u124 u125 u126 u127 u128 u129 u130 u131 u132 u133 u134 u135 u136 u137 u138 u139 u140 u141 u142 u143 u144 u145 u146 u147 u148 u149 u150 u151 u152 u153 u154 u155 u156 u157 u158 u159 u160 u161 u162 u163 u164 u165 u166 u167 u168 u169 u170 u171 wr hA
    obtain ⟨L, W0, W1, a0, c0, a1, c1, hM, hl, hg0, hg1, hw0, hw1, H⟩ := hA
    have hF0 := (hM.getD 0).2
    have hF1 := (hM.getD 1).2
    rw [hg0] at hF0
    rw [hg1] at hF1
    refine hK _ _ ?_
    clear hK K
    go_wp2_with ((with_reducible refine wpList_op rfl ?_); intro _ hK; refine wp_alloc_sl _ rfl info_arr H (fun T w' (H : At w [raw T #[.slice none 0 0, .slice none 0 0] 50, _, _, _, _] w') _ => hK _ _ ?_))
    rename_i K hK
    have tail2 : ∀ {v3 v4 v5 v6 v10 v11 v13 v14 v15 v16 v17 v18 v19 v20 v21 v22 v23 v24 v25 v26 v27 v28 v29 v30 v31 v32 v33 v34 v35 v36 v37 v38 v39 v40 v41 v42 v43 v44 v45 v46 v47 v48 v49 v50 v51 v52 v53 v54 v55 v56 v57 v58 v59 v60 v61 v62 v63 v64 v65 v66 v67 v68 v69 v70 v71 v72 v73 v74 v75 v76 v77 v78 v79 v80 v81 v82 v83 v84 v85 v86 v87 v88 v89 v90 v91 v92 v93 v94 v95 v96 v97 v98 v99 v100 v101 v102 v103 v104 v105 v106 v107 v108 v109 v110 v111 v112 v113 v114 v115 v116 v117 v118 v119 v120 v121 v122 v123 v124 v125 v126 v127 v128 v129 v130 v131 v132 v133 v134 v135 v136 v137 v138 v139 v140 v141 v142 v143 v144 v145 v146 v147 v148 v149 v150 v151 v152 v153 v154 v155 v156 v157 v158 v159 v160 v161 v162 v163 v164 v165 v166 v167 v168 v169 v170 v171 : Value} {wr : World}, OnceB w T V m W0 W1 a0 c0 a1 c1 wr → K ⟨#[.slice a len cap, .slice a2 len2 cap2, .slice a3 len3 cap3, v3, v4, v5, v6, .bool true, .pointer (some ⟨m, 0, none⟩), .pointer (some ⟨V, 0, none⟩), v10, v11, .pointer (some ⟨T, 0, none⟩), v13, v14, v15, v16, v17, v18, v19, v20, v21, v22, v23, v24, v25, v26, v27, v28, v29, v30, v31, v32, v33, v34, v35, v36, v37, v38, v39, v40, v41, v42, v43, v44, v45, v46, v47, v48, v49, v50, v51, v52, v53, v54, v55, v56, v57, v58, v59, v60, v61, v62, v63, v64, v65, v66, v67, v68, v69, v70, v71, v72, v73, v74, v75, v76, v77, v78, v79, v80, v81, v82, v83, v84, v85, v86, v87, v88, v89, v90, v91, v92, v93, v94, v95, v96, v97, v98, v99, v100, v101, v102, v103, v104, v105, v106, v107, v108, v109, v110, v111, v112, v113, v114, v115, v116, v117, v118, v119, v120, v121, v122, v123, v124, v125, v126, v127, v128, v129, v130, v131, v132, v133, v134, v135, v136, v137, v138, v139, v140, v141, v142, v143, v144, v145, v146, v147, v148, v149, v150, v151, v152, v153, v154, v155, v156, v157, v158, v159, v160, v161, v162, v163, v164, v165, v166, v167, v168, v169, v170, v171], []⟩ wr := by
      clear H hM hl hg0 hg1
      intro v3 v4 v5 v6 v10 v11 v13 v14 v15 v16 v17 v18 v19 v20 v21 v22 v23 v24 v25 v26 v27 v28 v29 v30 v31 v32 v33 v34 v35 v36 v37 v38 v39 v40 v41 v42 v43 v44 v45 v46 v47 v48 v49 v50 v51 v52 v53 v54 v55 v56 v57 v58 v59 v60 v61 v62 v63 v64 v65 v66 v67 v68 v69 v70 v71 v72 v73 v74 v75 v76 v77 v78 v79 v80 v81 v82 v83 v84 v85 v86 v87 v88 v89 v90 v91 v92 v93 v94 v95 v96 v97 v98 v99 v100 v101 v102 v103 v104 v105 v106 v107 v108 v109 v110 v111 v112 v113 v114 v115 v116 v117 v118 v119 v120 v121 v122 v123 v124 v125 v126 v127 v128 v129 v130 v131 v132 v133 v134 v135 v136 v137 v138 v139 v140 v141 v142 v143 v144 v145 v146 v147 v148 v149 v150 v151 v152 v153 v154 v155 v156 v157 v158 v159 v160 v161 v162 v163 v164 v165 v166 v167 v168 v169 v170 v171 wr hB
      refine hK _ _ ?_
      clear hK K
      go_wp2_with fail
      go_loopw [16] (fun i wr => ∃ q : Nat, q ≤ 2 ∧ i = .int .i64 q ∧ OnceB w T V m W0 W1 a0 c0 a1 c1 wr) (fun i _ => 2 - (intOf i).toNat)
      case atStart => exact ⟨0, by omega, rfl, hB⟩
      case round =>
        clear hB
        obtain ⟨q, hq, rfl, L, G0, G1, b0, d0, b1, d1, hM, hl, hg0, hg1, H⟩ := hrel
        unfold OnceS at H
        rcases (by omega : q = 0 ∨ q = 1 ∨ q = 2) with rfl | rfl | rfl
        · obtain ⟨X, e1, hX, _, e2, e3, hFX, hlX, ho, hbig⟩ := once_fetch hM hl (k := 0) (by omega) hg0 (show (0 : Int) ≤ 1099511627776 by omega)
          obtain ⟨eW, e4⟩ := hbig (by omega)
          rw [eW] at e3
          have hM' := hM.fetch 0 1099511627776
          obtain ⟨L', hL'⟩ : ∃ L', L' = fetchL L 0 1099511627776 := ⟨_, rfl⟩
          rw [← hL'] at e2 e3 ho e4 hM'
          have HL' := Lib.hid hL'
          have HO := Lib.hid (ho 1 (by omega))
          have HE1 := Lib.hid e1
          have HE3 := Lib.hid e3
          have HXX := Lib.hid hX
          have HE4 := Lib.hid e4
          have HEW := Lib.hid eW
          clear e1 e3 hX e4 eW hbig ho hL'
          go_wp2_with fail
          refine (fetch_c (H.pull 3 rfl) hM 0 (by omega) (by omega) _).mono ?_; rintro e w' ⟨u, rfl, H⟩
          obtain ⟨xa, xc, rfl⟩ := H.rows_slice
          rw [show (0 : Int).toNat = 0 from rfl] at H ⊢
          rw [HXX.out, ← HL'.out] at H
          rw [HE1.out, HXX.out]
          go_wp2_with ((with_reducible refine wpList_op rfl ?_); intro _ hK; first | (refine wp_get _ _ rfl rfl (by kernel_rfl) (raw_at (H.heap 2 rfl) rfl) (hK _ _ ?_)) | (refine wp_app_rows _ _ rfl rfl (H.pull 3 rfl) rfl 0 hFX rfl (by omega) (fun bb cc w' H => hK _ _ ?_)) | (refine wp_store_sl _ _ _ rfl rfl rfl (by kernel_rfl) rfl 3 H rfl (by simp) fun w' H => hK _ _ ?_))
          rw [← List.length_append, HEW.out] at H
          have H2 : OnceS w T V m W0 G1 W0 W1 bb cc b1 d1 a0 c0 a1 c1 L' w' := (((((((((H).pull 7 rfl).pull 7 rfl).pull 7 rfl).pull 5 rfl).pull 7 rfl).pull 5 rfl).pull 7 rfl).mask [true, true, true, true, true, true, true])
          clear H
          have H := H2
          clear H2
          refine wpL_begin 20 (OnceS w T V m W0 G1 W0 W1 bb cc b1 d1 a0 c0 a1 c1 L') [(0, true), (1, true), (2, true), (3, true), (4, true), (5, true), (6, true), (7, true), (8, true), (9, true), (10, true), (11, true), (12, true), (13, true), (14, true), (15, true), (16, true), (17, false), (18, true), (19, true)] rfl (by kernel_rfl) (by kernel_rfl) ((H.drew)) ?_
          intro ops hOps hS
          replace H := H.drew
          refine wpL_take hOps hS rfl (fun _ _ _ h => h) (yl_move rfl _ rfl) ?_
          simp only [Act.put, Act.eval, List.setIfInBounds_toArray, List.set_cons_zero, List.set_cons_succ, Array.getD_eq_getD_getElem?, List.getElem?_toArray, List.getElem?_cons_zero, List.getElem?_cons_succ, Option.getD_some]
          refine wpL_take hOps hS (v := ?vOp6) rfl (fun _ _ _ h => h) (yl rfl ?yOp6) ?_
          case yOp6 => (intro w hw; go_simp; first | done | rfl)
          simp only [Act.put, Act.eval, List.setIfInBounds_toArray, List.set_cons_zero, List.set_cons_succ, Array.getD_eq_getD_getElem?, List.getElem?_toArray, List.getElem?_cons_zero, List.getElem?_cons_succ, Option.getD_some]
          refine wpL_take hOps hS rfl (fun _ _ _ h => h) (yl_move rfl _ rfl) ?_
          simp only [Act.put, Act.eval, List.setIfInBounds_toArray, List.set_cons_zero, List.set_cons_succ, Array.getD_eq_getD_getElem?, List.getElem?_toArray, List.getElem?_cons_zero, List.getElem?_cons_succ, Option.getD_some]
          refine wpL_take hOps hS rfl (fun _ _ _ h => h) (yl_move rfl _ rfl) ?_
          simp only [Act.put, Act.eval, List.setIfInBounds_toArray, List.set_cons_zero, List.set_cons_succ, Array.getD_eq_getD_getElem?, List.getElem?_toArray, List.getElem?_cons_zero, List.getElem?_cons_succ, Option.getD_some]
          refine wpL_take hOps hS (v := ?vOp14) rfl (fun _ _ _ h => h) (yl rfl ?yOp14) ?_
          case yOp14 => (intro w hw; go_simp; first | done | rfl)
          simp only [Act.put, Act.eval, List.setIfInBounds_toArray, List.set_cons_zero, List.set_cons_succ, Array.getD_eq_getD_getElem?, List.getElem?_toArray, List.getElem?_cons_zero, List.getElem?_cons_succ, Option.getD_some]
          refine wpL_take hOps hS rfl (fun _ _ _ h => h) (yl_get rfl _ _ rfl rfl (by kernel_rfl) (fun w hw => raw_at (At.heap hw 0 rfl) rfl)) ?_
          simp only [Act.put, Act.eval, List.setIfInBounds_toArray, List.set_cons_zero, List.set_cons_succ, Array.getD_eq_getD_getElem?, List.getElem?_toArray, List.getElem?_cons_zero, List.getElem?_cons_succ, Option.getD_some]
          refine wpL_take hOps hS (v := ?vOp18) rfl (fun _ _ _ h => h) (yl rfl ?yOp18) ?_
          case yOp18 => (intro w hw; go_simp; first | done | rfl)
          simp only [Act.put, Act.eval, List.setIfInBounds_toArray, List.set_cons_zero, List.set_cons_succ, Array.getD_eq_getD_getElem?, List.getElem?_toArray, List.getElem?_cons_zero, List.getElem?_cons_succ, Option.getD_some]
          refine wpL_take hOps hS rfl (fun _ _ _ h => h) (yl_move rfl _ rfl) ?_
          simp only [Act.put, Act.eval, List.setIfInBounds_toArray, List.set_cons_zero, List.set_cons_succ, Array.getD_eq_getD_getElem?, List.getElem?_toArray, List.getElem?_cons_zero, List.getElem?_cons_succ, Option.getD_some]
          refine wpL_take hOps hS (v := ?vOp23) rfl (fun _ _ _ h => h) (yl rfl ?yOp23) ?_
          case yOp23 => (intro w hw; go_simp; first | done | rfl)
          simp only [Act.put, Act.eval, List.setIfInBounds_toArray, List.set_cons_zero, List.set_cons_succ, Array.getD_eq_getD_getElem?, List.getElem?_toArray, List.getElem?_cons_zero, List.getElem?_cons_succ, Option.getD_some]
          refine wpL_take hOps hS rfl (fun _ _ _ h => h) (yl_get rfl _ _ rfl rfl (by kernel_rfl) (fun w hw => raw_at (At.heap hw 4 rfl) rfl)) ?_
          simp only [Act.put, Act.eval, List.setIfInBounds_toArray, List.set_cons_zero, List.set_cons_succ, Array.getD_eq_getD_getElem?, List.getElem?_toArray, List.getElem?_cons_zero, List.getElem?_cons_succ, Option.getD_some]
          refine wpL_take hOps hS (v := ?vOp27) rfl (fun _ _ _ h => h) (yl rfl ?yOp27) ?_
          case yOp27 => (intro w hw; go_simp; first | done | rfl)
          simp only [Act.put, Act.eval, List.setIfInBounds_toArray, List.set_cons_zero, List.set_cons_succ, Array.getD_eq_getD_getElem?, List.getElem?_toArray, List.getElem?_cons_zero, List.getElem?_cons_succ, Option.getD_some]
          refine wpL_take hOps hS (v := ?vOp29) rfl (fun _ _ _ h => h) (yl rfl ?yOp29) ?_
          case yOp29 => (intro w hw; go_simp; first | done | rfl)
          simp only [Act.put, Act.eval, List.setIfInBounds_toArray, List.set_cons_zero, List.set_cons_succ, Array.getD_eq_getD_getElem?, List.getElem?_toArray, List.getElem?_cons_zero, List.getElem?_cons_succ, Option.getD_some]
          refine wpL_take hOps hS (v := ?vOp31) rfl (fun _ _ _ h => h) (yl rfl ?yOp31) ?_
          case yOp31 => (intro w hw; go_simp; first | done | rfl)
          simp only [Act.put, Act.eval, List.setIfInBounds_toArray, List.set_cons_zero, List.set_cons_succ, Array.getD_eq_getD_getElem?, List.getElem?_toArray, List.getElem?_cons_zero, List.getElem?_cons_succ, Option.getD_some]
          refine wpL_take hOps hS rfl (fun _ _ _ h => h) (yl_move rfl _ rfl) ?_
          simp only [Act.put, Act.eval, List.setIfInBounds_toArray, List.set_cons_zero, List.set_cons_succ, Array.getD_eq_getD_getElem?, List.getElem?_toArray, List.getElem?_cons_zero, List.getElem?_cons_succ, Option.getD_some]
          refine wpL_take hOps hS rfl (fun _ _ _ h => h) (yl_move rfl _ rfl) ?_
          simp only [Act.put, Act.eval, List.setIfInBounds_toArray, List.set_cons_zero, List.set_cons_succ, Array.getD_eq_getD_getElem?, List.getElem?_toArray, List.getElem?_cons_zero, List.getElem?_cons_succ, Option.getD_some]
          refine wpL_take hOps hS rfl (fun _ _ _ h => h) (yl_move rfl _ rfl) ?_
          simp only [Act.put, Act.eval, List.setIfInBounds_toArray, List.set_cons_zero, List.set_cons_succ, Array.getD_eq_getD_getElem?, List.getElem?_toArray, List.getElem?_cons_zero, List.getElem?_cons_succ, Option.getD_some]
          refine wpL_take hOps hS (v := ?vOp42) rfl (fun _ _ _ h => h) (yl rfl ?yOp42) ?_
          case yOp42 => (intro w hw; go_simp; first | done | rfl)
          simp only [Act.put, Act.eval, List.setIfInBounds_toArray, List.set_cons_zero, List.set_cons_succ, Array.getD_eq_getD_getElem?, List.getElem?_toArray, List.getElem?_cons_zero, List.getElem?_cons_succ, Option.getD_some]
          refine wpL_next hOps rfl rfl ?_
          intro K hK
          refine wp_call _ _ _ rfl Try.func17 rfl (by kernel_rfl) ?_
          simp only [List.map_toArray, List.map_cons, List.map_nil, Act.eval, Array.getD_eq_getD_getElem?, List.getElem?_toArray, List.getElem?_cons_zero, List.getElem?_cons_succ, Option.getD_some]
          refine (len_c (At.pull H 3 rfl) 0 (by omega) (by omega)).mono ?_; rintro e w' ⟨rfl, rfl⟩
          rw [show (0 : Int).toNat = 0 from rfl, HE4.out]
          have hS := (H)
          refine hK _ _ hS ?_
          clear hK K
          simp only [Act.put, Act.eval, List.setIfInBounds_toArray, List.set_cons_zero, List.set_cons_succ, Array.getD_eq_getD_getElem?, List.getElem?_toArray, List.getElem?_cons_zero, List.getElem?_cons_succ, Option.getD_some]
          refine wpL_take hOps hS (v := ?vOp48) rfl (fun _ _ _ h => h) (yl rfl ?yOp48) ?_
          case yOp48 => (intro w hw; go_simp; first | done | rfl)
          simp only [Act.put, Act.eval, List.setIfInBounds_toArray, List.set_cons_zero, List.set_cons_succ, Array.getD_eq_getD_getElem?, List.getElem?_toArray, List.getElem?_cons_zero, List.getElem?_cons_succ, Option.getD_some]
          refine wpL_take hOps hS (v := ?vOp50) rfl (fun _ _ _ h => h) (yl rfl ?yOp50) ?_
          case yOp50 => (intro w hw; go_simp; first | done | rfl)
          simp only [Act.put, Act.eval, List.setIfInBounds_toArray, List.set_cons_zero, List.set_cons_succ, Array.getD_eq_getD_getElem?, List.getElem?_toArray, List.getElem?_cons_zero, List.getElem?_cons_succ, Option.getD_some]
          refine wpL_end ?_
          clear hOps hS ops
          go_wp2
          go_loopw [19] (fun i wr => ∃ r : Nat, (r : Int) ≤ W0.length ∧ i = .int .i64 r ∧ OnceS w T V m W0 G1 W0 W1 bb cc b1 d1 a0 c0 a1 c1 L' wr) (fun i _ => W0.length - (intOf i).toNat)
          case atStart => exact ⟨0, by omega, rfl, H⟩
          case round =>
            clear H
            obtain ⟨r, hr, rfl, H⟩ := hrel
            unfold OnceS at H
            by_cases hlt : (r : Int) < W0.length
            · obtain ⟨x, hx⟩ : ∃ x, W0[r]? = some x := ⟨_, List.getElem?_eq_getElem (by omega)⟩
              have hxl : x.length = 256 := hF0 x (List.mem_of_getElem? hx)
              have HZ := Lib.hid hx
              clear hx
              rcases (H.pull 1 rfl).rows_value with ⟨_, hn0, _⟩ | ⟨ga, oa, ca, e, _⟩
              · omega
              rcases (H.pull 5 rfl).rows_value with ⟨_, hn0, _⟩ | ⟨gb, ob, cb, e', _⟩
              · omega
              cases e
              cases e'
              go_wp2_with ((with_reducible refine wpList_op rfl ?_); intro _ hK; refine wp_get _ _ rfl rfl (by kernel_rfl) (raw_at (H.heap 4 rfl) rfl) (hK _ _ ?_))
              refine wpL_begin 13 (OnceS w T V m W0 G1 W0 W1 (some ⟨ga, oa, none⟩) cc b1 d1 (some ⟨gb, ob, none⟩) c0 a1 c1 L') [(0, true), (1, true), (2, true), (3, true), (4, true), (5, true), (6, true), (7, true), (8, true), (9, true), (10, true), (11, true), (12, true)] rfl (by kernel_rfl) (by kernel_rfl) ((H.drew)) ?_
              intro ops hOps hS
              replace H := H.drew
              refine wpL_take hOps hS rfl (fun _ _ _ h => h) (yl_move rfl _ rfl) ?_
              simp only [Act.put, Act.eval, List.setIfInBounds_toArray, List.set_cons_zero, List.set_cons_succ, Array.getD_eq_getD_getElem?, List.getElem?_toArray, List.getElem?_cons_zero, List.getElem?_cons_succ, Option.getD_some]
              refine wpL_take hOps hS (v := ?vOp57) rfl (fun _ _ _ h => h) (yl rfl ?yOp57) ?_
              case yOp57 => (intro w hw; go_simp; first | done | rfl)
              simp only [Act.put, Act.eval, List.setIfInBounds_toArray, List.set_cons_zero, List.set_cons_succ, Array.getD_eq_getD_getElem?, List.getElem?_toArray, List.getElem?_cons_zero, List.getElem?_cons_succ, Option.getD_some]
              refine wpL_take hOps hS rfl (fun _ _ _ h => h) (yl_get rfl _ _ rfl rfl (by kernel_rfl) (fun w hw => raw_at (At.heap hw 0 rfl) rfl)) ?_
              simp only [Act.put, Act.eval, List.setIfInBounds_toArray, List.set_cons_zero, List.set_cons_succ, Array.getD_eq_getD_getElem?, List.getElem?_toArray, List.getElem?_cons_zero, List.getElem?_cons_succ, Option.getD_some]
              refine wpL_take hOps hS rfl (fun _ _ _ h => h) (yl_move rfl _ rfl) ?_
              simp only [Act.put, Act.eval, List.setIfInBounds_toArray, List.set_cons_zero, List.set_cons_succ, Array.getD_eq_getD_getElem?, List.getElem?_toArray, List.getElem?_cons_zero, List.getElem?_cons_succ, Option.getD_some]
              refine wpL_take hOps hS (v := ?vOp64) rfl (fun _ _ _ h => h) (yl rfl ?yOp64) ?_
              case yOp64 => (intro w hw; go_simp; first | done | rfl)
              simp only [Act.put, Act.eval, List.setIfInBounds_toArray, List.set_cons_zero, List.set_cons_succ, Array.getD_eq_getD_getElem?, List.getElem?_toArray, List.getElem?_cons_zero, List.getElem?_cons_succ, Option.getD_some]
              refine wpL_take hOps hS rfl (fun _ _ _ h => h) (yieldsIf_load_mid rfl _ _ rfl ga (oa + r * 256) rfl (bl x) _ (fun w hw => rows_at hw 1 rfl hF0 HZ.out) under_body rfl (by rw [bl_length, hxl]; kernel_rfl)) ?_
              simp only [Act.put, Act.eval, List.setIfInBounds_toArray, List.set_cons_zero, List.set_cons_succ, Array.getD_eq_getD_getElem?, List.getElem?_toArray, List.getElem?_cons_zero, List.getElem?_cons_succ, Option.getD_some]
              refine wpL_take hOps hS rfl (fun _ _ _ h => h) (yl_move rfl _ rfl) ?_
              simp only [Act.put, Act.eval, List.setIfInBounds_toArray, List.set_cons_zero, List.set_cons_succ, Array.getD_eq_getD_getElem?, List.getElem?_toArray, List.getElem?_cons_zero, List.getElem?_cons_succ, Option.getD_some]
              refine wpL_take hOps hS (v := ?vOp71) rfl (fun _ _ _ h => h) (yl rfl ?yOp71) ?_
              case yOp71 => (intro w hw; go_simp; first | done | rfl)
              simp only [Act.put, Act.eval, List.setIfInBounds_toArray, List.set_cons_zero, List.set_cons_succ, Array.getD_eq_getD_getElem?, List.getElem?_toArray, List.getElem?_cons_zero, List.getElem?_cons_succ, Option.getD_some]
              refine wpL_take hOps hS rfl (fun _ _ _ h => h) (yl_get rfl _ _ rfl rfl (by kernel_rfl) (fun w hw => raw_at (At.heap hw 4 rfl) rfl)) ?_
              simp only [Act.put, Act.eval, List.setIfInBounds_toArray, List.set_cons_zero, List.set_cons_succ, Array.getD_eq_getD_getElem?, List.getElem?_toArray, List.getElem?_cons_zero, List.getElem?_cons_succ, Option.getD_some]
              refine wpL_take hOps hS rfl (fun _ _ _ h => h) (yl_move rfl _ rfl) ?_
              simp only [Act.put, Act.eval, List.setIfInBounds_toArray, List.set_cons_zero, List.set_cons_succ, Array.getD_eq_getD_getElem?, List.getElem?_toArray, List.getElem?_cons_zero, List.getElem?_cons_succ, Option.getD_some]
              refine wpL_take hOps hS (v := ?vOp78) rfl (fun _ _ _ h => h) (yl rfl ?yOp78) ?_
              case yOp78 => (intro w hw; go_simp; first | done | rfl)
              simp only [Act.put, Act.eval, List.setIfInBounds_toArray, List.set_cons_zero, List.set_cons_succ, Array.getD_eq_getD_getElem?, List.getElem?_toArray, List.getElem?_cons_zero, List.getElem?_cons_succ, Option.getD_some]
              refine wpL_take hOps hS rfl (fun _ _ _ h => h) (yieldsIf_load_mid rfl _ _ rfl gb (ob + r * 256) rfl (bl x) _ (fun w hw => rows_at hw 5 rfl hF0 HZ.out) under_body rfl (by rw [bl_length, hxl]; kernel_rfl)) ?_
              simp only [Act.put, Act.eval, List.setIfInBounds_toArray, List.set_cons_zero, List.set_cons_succ, Array.getD_eq_getD_getElem?, List.getElem?_toArray, List.getElem?_cons_zero, List.getElem?_cons_succ, Option.getD_some]
              refine wpL_take hOps hS rfl (fun _ _ _ h => h) (yl rfl fun w _ => exec_neq_bytes rfl rfl rfl under_body under_uint8 size_uint8 noguard_body hxl hxl) ?_
              simp only [Act.put, Act.eval, List.setIfInBounds_toArray, List.set_cons_zero, List.set_cons_succ, Array.getD_eq_getD_getElem?, List.getElem?_toArray, List.getElem?_cons_zero, List.getElem?_cons_succ, Option.getD_some]
              rw [beq_self_eq_true, Bool.not_true]
              refine wpL_end ?_
              clear hOps hS ops
              go_wp2
              refine ⟨?_, ?measure⟩
              iterate 23 (apply Exists.intro)
              refine ⟨?rel, rfl⟩
              case rel => exact ⟨r + 1, by omega, by go_num, H⟩
              case measure => simp [intOf]; omega
            · go_wp2_with ((with_reducible refine wpList_op rfl ?_); intro _ hK; refine wp_get _ _ rfl rfl (by kernel_rfl) (raw_at (H.heap 4 rfl) rfl) (hK _ _ ?_))
              go_roundw
              case rel => exact ⟨0 + 1, by omega, by go_num, L', W0, G1, _, _, _, _, hM', e2, HE3.out, (by rw [HO.out]; exact hg1), H⟩
              case measure => simp [intOf]
        · obtain ⟨X, e1, hX, _, e2, e3, hFX, hlX, ho, hbig⟩ := once_fetch hM hl (k := 1) (by omega) hg1 (show (0 : Int) ≤ 1099511627776 by omega)
          obtain ⟨eW, e4⟩ := hbig (by omega)
          rw [eW] at e3
          have hM' := hM.fetch 1 1099511627776
          obtain ⟨L', hL'⟩ : ∃ L', L' = fetchL L 1 1099511627776 := ⟨_, rfl⟩
          rw [← hL'] at e2 e3 ho e4 hM'
          have HL' := Lib.hid hL'
          have HO := Lib.hid (ho 0 (by omega))
          have HE1 := Lib.hid e1
          have HE3 := Lib.hid e3
          have HXX := Lib.hid hX
          have HE4 := Lib.hid e4
          have HEW := Lib.hid eW
          clear e1 e3 hX e4 eW hbig ho hL'
          go_wp2_with fail
          refine (fetch_c (H.pull 3 rfl) hM 1 (by omega) (by omega) _).mono ?_; rintro e w' ⟨u, rfl, H⟩
          obtain ⟨xa, xc, rfl⟩ := H.rows_slice
          rw [show (1 : Int).toNat = 1 from rfl] at H ⊢
          rw [HXX.out, ← HL'.out] at H
          rw [HE1.out, HXX.out]
          go_wp2_with ((with_reducible refine wpList_op rfl ?_); intro _ hK; first | (refine wp_get _ _ rfl rfl (by kernel_rfl) (raw_at (H.heap 2 rfl) rfl) (hK _ _ ?_)) | (refine wp_app_rows _ _ rfl rfl (H.pull 4 rfl) rfl 0 hFX rfl (by omega) (fun bb cc w' H => hK _ _ ?_)) | (refine wp_store_sl _ _ _ rfl rfl rfl (by kernel_rfl) rfl 3 H rfl (by simp) fun w' H => hK _ _ ?_))
          rw [← List.length_append, HEW.out] at H
          have H2 : OnceS w T V m G0 W1 W0 W1 b0 d0 bb cc a0 c0 a1 c1 L' w' := (((((((((H).pull 7 rfl).pull 7 rfl).pull 7 rfl).pull 5 rfl).pull 4 rfl).pull 7 rfl).pull 7 rfl).mask [true, true, true, true, true, true, true])
          clear H
          have H := H2
          clear H2
          refine wpL_begin 20 (OnceS w T V m G0 W1 W0 W1 b0 d0 bb cc a0 c0 a1 c1 L') [(0, true), (1, true), (2, true), (3, true), (4, true), (5, true), (6, true), (7, true), (8, true), (9, true), (10, true), (11, true), (12, true), (13, true), (14, true), (15, true), (16, true), (17, false), (18, true), (19, true)] rfl (by kernel_rfl) (by kernel_rfl) ((H.drew)) ?_
          intro ops hOps hS
          replace H := H.drew
          refine wpL_take hOps hS rfl (fun _ _ _ h => h) (yl_move rfl _ rfl) ?_
          simp only [Act.put, Act.eval, List.setIfInBounds_toArray, List.set_cons_zero, List.set_cons_succ, Array.getD_eq_getD_getElem?, List.getElem?_toArray, List.getElem?_cons_zero, List.getElem?_cons_succ, Option.getD_some]
          refine wpL_take hOps hS (v := ?vOp90) rfl (fun _ _ _ h => h) (yl rfl ?yOp90) ?_
          case yOp90 => (intro w hw; go_simp; first | done | rfl)
          simp only [Act.put, Act.eval, List.setIfInBounds_toArray, List.set_cons_zero, List.set_cons_succ, Array.getD_eq_getD_getElem?, List.getElem?_toArray, List.getElem?_cons_zero, List.getElem?_cons_succ, Option.getD_some]
          refine wpL_take hOps hS rfl (fun _ _ _ h => h) (yl_move rfl _ rfl) ?_
          simp only [Act.put, Act.eval, List.setIfInBounds_toArray, List.set_cons_zero, List.set_cons_succ, Array.getD_eq_getD_getElem?, List.getElem?_toArray, List.getElem?_cons_zero, List.getElem?_cons_succ, Option.getD_some]
          refine wpL_take hOps hS rfl (fun _ _ _ h => h) (yl_move rfl _ rfl) ?_
          simp only [Act.put, Act.eval, List.setIfInBounds_toArray, List.set_cons_zero, List.set_cons_succ, Array.getD_eq_getD_getElem?, List.getElem?_toArray, List.getElem?_cons_zero, List.getElem?_cons_succ, Option.getD_some]
          refine wpL_take hOps hS (v := ?vOp98) rfl (fun _ _ _ h => h) (yl rfl ?yOp98) ?_
          case yOp98 => (intro w hw; go_simp; first | done | rfl)
          simp only [Act.put, Act.eval, List.setIfInBounds_toArray, List.set_cons_zero, List.set_cons_succ, Array.getD_eq_getD_getElem?, List.getElem?_toArray, List.getElem?_cons_zero, List.getElem?_cons_succ, Option.getD_some]
          refine wpL_take hOps hS rfl (fun _ _ _ h => h) (yl_get rfl _ _ rfl rfl (by kernel_rfl) (fun w hw => raw_at (At.heap hw 0 rfl) rfl)) ?_
          simp only [Act.put, Act.eval, List.setIfInBounds_toArray, List.set_cons_zero, List.set_cons_succ, Array.getD_eq_getD_getElem?, List.getElem?_toArray, List.getElem?_cons_zero, List.getElem?_cons_succ, Option.getD_some]
          refine wpL_take hOps hS (v := ?vOp102) rfl (fun _ _ _ h => h) (yl rfl ?yOp102) ?_
          case yOp102 => (intro w hw; go_simp; first | done | rfl)
          simp only [Act.put, Act.eval, List.setIfInBounds_toArray, List.set_cons_zero, List.set_cons_succ, Array.getD_eq_getD_getElem?, List.getElem?_toArray, List.getElem?_cons_zero, List.getElem?_cons_succ, Option.getD_some]
          refine wpL_take hOps hS rfl (fun _ _ _ h => h) (yl_move rfl _ rfl) ?_
          simp only [Act.put, Act.eval, List.setIfInBounds_toArray, List.set_cons_zero, List.set_cons_succ, Array.getD_eq_getD_getElem?, List.getElem?_toArray, List.getElem?_cons_zero, List.getElem?_cons_succ, Option.getD_some]
          refine wpL_take hOps hS (v := ?vOp107) rfl (fun _ _ _ h => h) (yl rfl ?yOp107) ?_
          case yOp107 => (intro w hw; go_simp; first | done | rfl)
          simp only [Act.put, Act.eval, List.setIfInBounds_toArray, List.set_cons_zero, List.set_cons_succ, Array.getD_eq_getD_getElem?, List.getElem?_toArray, List.getElem?_cons_zero, List.getElem?_cons_succ, Option.getD_some]
          refine wpL_take hOps hS rfl (fun _ _ _ h => h) (yl_get rfl _ _ rfl rfl (by kernel_rfl) (fun w hw => raw_at (At.heap hw 4 rfl) rfl)) ?_
          simp only [Act.put, Act.eval, List.setIfInBounds_toArray, List.set_cons_zero, List.set_cons_succ, Array.getD_eq_getD_getElem?, List.getElem?_toArray, List.getElem?_cons_zero, List.getElem?_cons_succ, Option.getD_some]
          refine wpL_take hOps hS (v := ?vOp111) rfl (fun _ _ _ h => h) (yl rfl ?yOp111) ?_
          case yOp111 => (intro w hw; go_simp; first | done | rfl)
          simp only [Act.put, Act.eval, List.setIfInBounds_toArray, List.set_cons_zero, List.set_cons_succ, Array.getD_eq_getD_getElem?, List.getElem?_toArray, List.getElem?_cons_zero, List.getElem?_cons_succ, Option.getD_some]
          refine wpL_take hOps hS (v := ?vOp113) rfl (fun _ _ _ h => h) (yl rfl ?yOp113) ?_
          case yOp113 => (intro w hw; go_simp; first | done | rfl)
          simp only [Act.put, Act.eval, List.setIfInBounds_toArray, List.set_cons_zero, List.set_cons_succ, Array.getD_eq_getD_getElem?, List.getElem?_toArray, List.getElem?_cons_zero, List.getElem?_cons_succ, Option.getD_some]
          refine wpL_take hOps hS (v := ?vOp115) rfl (fun _ _ _ h => h) (yl rfl ?yOp115) ?_
          case yOp115 => (intro w hw; go_simp; first | done | rfl)
          simp only [Act.put, Act.eval, List.setIfInBounds_toArray, List.set_cons_zero, List.set_cons_succ, Array.getD_eq_getD_getElem?, List.getElem?_toArray, List.getElem?_cons_zero, List.getElem?_cons_succ, Option.getD_some]
          refine wpL_take hOps hS rfl (fun _ _ _ h => h) (yl_move rfl _ rfl) ?_
          simp only [Act.put, Act.eval, List.setIfInBounds_toArray, List.set_cons_zero, List.set_cons_succ, Array.getD_eq_getD_getElem?, List.getElem?_toArray, List.getElem?_cons_zero, List.getElem?_cons_succ, Option.getD_some]
          refine wpL_take hOps hS rfl (fun _ _ _ h => h) (yl_move rfl _ rfl) ?_
          simp only [Act.put, Act.eval, List.setIfInBounds_toArray, List.set_cons_zero, List.set_cons_succ, Array.getD_eq_getD_getElem?, List.getElem?_toArray, List.getElem?_cons_zero, List.getElem?_cons_succ, Option.getD_some]
          refine wpL_take hOps hS rfl (fun _ _ _ h => h) (yl_move rfl _ rfl) ?_
          simp only [Act.put, Act.eval, List.setIfInBounds_toArray, List.set_cons_zero, List.set_cons_succ, Array.getD_eq_getD_getElem?, List.getElem?_toArray, List.getElem?_cons_zero, List.getElem?_cons_succ, Option.getD_some]
          refine wpL_take hOps hS (v := ?vOp126) rfl (fun _ _ _ h => h) (yl rfl ?yOp126) ?_
          case yOp126 => (intro w hw; go_simp; first | done | rfl)
          simp only [Act.put, Act.eval, List.setIfInBounds_toArray, List.set_cons_zero, List.set_cons_succ, Array.getD_eq_getD_getElem?, List.getElem?_toArray, List.getElem?_cons_zero, List.getElem?_cons_succ, Option.getD_some]
          refine wpL_next hOps rfl rfl ?_
          intro K hK
          refine wp_call _ _ _ rfl Try.func17 rfl (by kernel_rfl) ?_
          simp only [List.map_toArray, List.map_cons, List.map_nil, Act.eval, Array.getD_eq_getD_getElem?, List.getElem?_toArray, List.getElem?_cons_zero, List.getElem?_cons_succ, Option.getD_some]
          refine (len_c (At.pull H 3 rfl) 1 (by omega) (by omega)).mono ?_; rintro e w' ⟨rfl, rfl⟩
          rw [show (1 : Int).toNat = 1 from rfl, HE4.out]
          have hS := (H)
          refine hK _ _ hS ?_
          clear hK K
          simp only [Act.put, Act.eval, List.setIfInBounds_toArray, List.set_cons_zero, List.set_cons_succ, Array.getD_eq_getD_getElem?, List.getElem?_toArray, List.getElem?_cons_zero, List.getElem?_cons_succ, Option.getD_some]
          refine wpL_take hOps hS (v := ?vOp132) rfl (fun _ _ _ h => h) (yl rfl ?yOp132) ?_
          case yOp132 => (intro w hw; go_simp; first | done | rfl)
          simp only [Act.put, Act.eval, List.setIfInBounds_toArray, List.set_cons_zero, List.set_cons_succ, Array.getD_eq_getD_getElem?, List.getElem?_toArray, List.getElem?_cons_zero, List.getElem?_cons_succ, Option.getD_some]
          refine wpL_take hOps hS (v := ?vOp134) rfl (fun _ _ _ h => h) (yl rfl ?yOp134) ?_
          case yOp134 => (intro w hw; go_simp; first | done | rfl)
          simp only [Act.put, Act.eval, List.setIfInBounds_toArray, List.set_cons_zero, List.set_cons_succ, Array.getD_eq_getD_getElem?, List.getElem?_toArray, List.getElem?_cons_zero, List.getElem?_cons_succ, Option.getD_some]
          refine wpL_end ?_
          clear hOps hS ops
          go_wp2
          go_loopw [19] (fun i wr => ∃ r : Nat, (r : Int) ≤ W1.length ∧ i = .int .i64 r ∧ OnceS w T V m G0 W1 W0 W1 b0 d0 bb cc a0 c0 a1 c1 L' wr) (fun i _ => W1.length - (intOf i).toNat)
          case atStart => exact ⟨0, by omega, rfl, H⟩
          case round =>
            clear H
            obtain ⟨r, hr, rfl, H⟩ := hrel
            unfold OnceS at H
            by_cases hlt : (r : Int) < W1.length
            · obtain ⟨x, hx⟩ : ∃ x, W1[r]? = some x := ⟨_, List.getElem?_eq_getElem (by omega)⟩
              have hxl : x.length = 256 := hF1 x (List.mem_of_getElem? hx)
              have HZ := Lib.hid hx
              clear hx
              rcases (H.pull 2 rfl).rows_value with ⟨_, hn0, _⟩ | ⟨ga, oa, ca, e, _⟩
              · omega
              rcases (H.pull 6 rfl).rows_value with ⟨_, hn0, _⟩ | ⟨gb, ob, cb, e', _⟩
              · omega
              cases e
              cases e'
              go_wp2_with ((with_reducible refine wpList_op rfl ?_); intro _ hK; refine wp_get _ _ rfl rfl (by kernel_rfl) (raw_at (H.heap 4 rfl) rfl) (hK _ _ ?_))
              refine wpL_begin 13 (OnceS w T V m G0 W1 W0 W1 b0 d0 (some ⟨ga, oa, none⟩) cc a0 c0 (some ⟨gb, ob, none⟩) c1 L') [(0, true), (1, true), (2, true), (3, true), (4, true), (5, true), (6, true), (7, true), (8, true), (9, true), (10, true), (11, true), (12, true)] rfl (by kernel_rfl) (by kernel_rfl) ((H.drew)) ?_
              intro ops hOps hS
              replace H := H.drew
              refine wpL_take hOps hS rfl (fun _ _ _ h => h) (yl_move rfl _ rfl) ?_
              simp only [Act.put, Act.eval, List.setIfInBounds_toArray, List.set_cons_zero, List.set_cons_succ, Array.getD_eq_getD_getElem?, List.getElem?_toArray, List.getElem?_cons_zero, List.getElem?_cons_succ, Option.getD_some]
              refine wpL_take hOps hS (v := ?vOp141) rfl (fun _ _ _ h => h) (yl rfl ?yOp141) ?_
              case yOp141 => (intro w hw; go_simp; first | done | rfl)
              simp only [Act.put, Act.eval, List.setIfInBounds_toArray, List.set_cons_zero, List.set_cons_succ, Array.getD_eq_getD_getElem?, List.getElem?_toArray, List.getElem?_cons_zero, List.getElem?_cons_succ, Option.getD_some]
              refine wpL_take hOps hS rfl (fun _ _ _ h => h) (yl_get rfl _ _ rfl rfl (by kernel_rfl) (fun w hw => raw_at (At.heap hw 0 rfl) rfl)) ?_
              simp only [Act.put, Act.eval, List.setIfInBounds_toArray, List.set_cons_zero, List.set_cons_succ, Array.getD_eq_getD_getElem?, List.getElem?_toArray, List.getElem?_cons_zero, List.getElem?_cons_succ, Option.getD_some]
              refine wpL_take hOps hS rfl (fun _ _ _ h => h) (yl_move rfl _ rfl) ?_
              simp only [Act.put, Act.eval, List.setIfInBounds_toArray, List.set_cons_zero, List.set_cons_succ, Array.getD_eq_getD_getElem?, List.getElem?_toArray, List.getElem?_cons_zero, List.getElem?_cons_succ, Option.getD_some]
              refine wpL_take hOps hS (v := ?vOp148) rfl (fun _ _ _ h => h) (yl rfl ?yOp148) ?_
              case yOp148 => (intro w hw; go_simp; first | done | rfl)
              simp only [Act.put, Act.eval, List.setIfInBounds_toArray, List.set_cons_zero, List.set_cons_succ, Array.getD_eq_getD_getElem?, List.getElem?_toArray, List.getElem?_cons_zero, List.getElem?_cons_succ, Option.getD_some]
              refine wpL_take hOps hS rfl (fun _ _ _ h => h) (yieldsIf_load_mid rfl _ _ rfl ga (oa + r * 256) rfl (bl x) _ (fun w hw => rows_at hw 2 rfl hF1 HZ.out) under_body rfl (by rw [bl_length, hxl]; kernel_rfl)) ?_
              simp only [Act.put, Act.eval, List.setIfInBounds_toArray, List.set_cons_zero, List.set_cons_succ, Array.getD_eq_getD_getElem?, List.getElem?_toArray, List.getElem?_cons_zero, List.getElem?_cons_succ, Option.getD_some]
              refine wpL_take hOps hS rfl (fun _ _ _ h => h) (yl_move rfl _ rfl) ?_
              simp only [Act.put, Act.eval, List.setIfInBounds_toArray, List.set_cons_zero, List.set_cons_succ, Array.getD_eq_getD_getElem?, List.getElem?_toArray, List.getElem?_cons_zero, List.getElem?_cons_succ, Option.getD_some]
              refine wpL_take hOps hS (v := ?vOp155) rfl (fun _ _ _ h => h) (yl rfl ?yOp155) ?_
              case yOp155 => (intro w hw; go_simp; first | done | rfl)
              simp only [Act.put, Act.eval, List.setIfInBounds_toArray, List.set_cons_zero, List.set_cons_succ, Array.getD_eq_getD_getElem?, List.getElem?_toArray, List.getElem?_cons_zero, List.getElem?_cons_succ, Option.getD_some]
              refine wpL_take hOps hS rfl (fun _ _ _ h => h) (yl_get rfl _ _ rfl rfl (by kernel_rfl) (fun w hw => raw_at (At.heap hw 4 rfl) rfl)) ?_
              simp only [Act.put, Act.eval, List.setIfInBounds_toArray, List.set_cons_zero, List.set_cons_succ, Array.getD_eq_getD_getElem?, List.getElem?_toArray, List.getElem?_cons_zero, List.getElem?_cons_succ, Option.getD_some]
              refine wpL_take hOps hS rfl (fun _ _ _ h => h) (yl_move rfl _ rfl) ?_
              simp only [Act.put, Act.eval, List.setIfInBounds_toArray, List.set_cons_zero, List.set_cons_succ, Array.getD_eq_getD_getElem?, List.getElem?_toArray, List.getElem?_cons_zero, List.getElem?_cons_succ, Option.getD_some]
              refine wpL_take hOps hS (v := ?vOp162) rfl (fun _ _ _ h => h) (yl rfl ?yOp162) ?_
              case yOp162 => (intro w hw; go_simp; first | done | rfl)
              simp only [Act.put, Act.eval, List.setIfInBounds_toArray, List.set_cons_zero, List.set_cons_succ, Array.getD_eq_getD_getElem?, List.getElem?_toArray, List.getElem?_cons_zero, List.getElem?_cons_succ, Option.getD_some]
              refine wpL_take hOps hS rfl (fun _ _ _ h => h) (yieldsIf_load_mid rfl _ _ rfl gb (ob + r * 256) rfl (bl x) _ (fun w hw => rows_at hw 6 rfl hF1 HZ.out) under_body rfl (by rw [bl_length, hxl]; kernel_rfl)) ?_
              simp only [Act.put, Act.eval, List.setIfInBounds_toArray, List.set_cons_zero, List.set_cons_succ, Array.getD_eq_getD_getElem?, List.getElem?_toArray, List.getElem?_cons_zero, List.getElem?_cons_succ, Option.getD_some]
              refine wpL_take hOps hS rfl (fun _ _ _ h => h) (yl rfl fun w _ => exec_neq_bytes rfl rfl rfl under_body under_uint8 size_uint8 noguard_body hxl hxl) ?_
              simp only [Act.put, Act.eval, List.setIfInBounds_toArray, List.set_cons_zero, List.set_cons_succ, Array.getD_eq_getD_getElem?, List.getElem?_toArray, List.getElem?_cons_zero, List.getElem?_cons_succ, Option.getD_some]
              rw [beq_self_eq_true, Bool.not_true]
              refine wpL_end ?_
              clear hOps hS ops
              go_wp2
              refine ⟨?_, ?measure⟩
              iterate 23 (apply Exists.intro)
              refine ⟨?rel, rfl⟩
              case rel => exact ⟨r + 1, by omega, by go_num, H⟩
              case measure => simp [intOf]; omega
            · go_wp2_with ((with_reducible refine wpList_op rfl ?_); intro _ hK; refine wp_get _ _ rfl rfl (by kernel_rfl) (raw_at (H.heap 4 rfl) rfl) (hK _ _ ?_))
              go_roundw
              case rel => exact ⟨1 + 1, by omega, by go_num, L', G0, W1, _, _, _, _, hM', e2, (by rw [HO.out]; exact hg0), HE3.out, H⟩
              case measure => simp [intOf]
        · go_wp2
          go_ret
          exact ⟨rfl, H.below⟩
    clear hK
    go_loopw [13] (fun i wr => ∃ j : Nat, (j : Int) ≤ 40 ∧ i = .int .i64 j ∧ OnceB w T V m W0 W1 a0 c0 a1 c1 wr) (fun i _ => 40 - (intOf i).toNat)
    case atStart => exact ⟨0, by omega, rfl, L, [], [], _, _, _, _, hM, hl, hg0, hg1, (((((((((rows_start (rows_start H)).pull 5 rfl).pull 5 rfl).pull 5 rfl).pull 6 rfl).pull 4 rfl).pull 5 rfl).pull 6 rfl).mask [true, true, true, true, true, true, true])⟩
    case round =>
      clear H hM hl hg0 hg1
      obtain ⟨j, hj, rfl, hB⟩ := hrel
      by_cases hj1 : (j : Int) < len3
      · by_cases hj2 : (j : Int) < 40
        · clear tail2
          obtain ⟨L, G0, G1, b0, d0, b1, d1, hM, hl, hg0, hg1, H⟩ := hB
          unfold OnceS at H
          obtain ⟨ha, x, hx, hxw⟩ := hcell3 j (by omega)
          subst ha
          clear hcell3
          obtain ⟨hxa, hxb⟩ := bounds_u8 hxw
          have hblt := World.block_lt_of_cell? w _ hx
          have HX := Lib.hid hx
          clear hx hxw
          obtain ⟨y, hy, hya, hyb⟩ := mod_range x 9 (by omega)
          rcases (by omega : (j : Int) % 2 = 0 ∨ (j : Int) % 2 = 1) with hj3 | hj3
          · obtain ⟨X, e1, hX, hXy, e2, e3, hFX, hlX, ho, _⟩ := once_fetch hM hl (k := 0) (by omega) hg0 (show 0 ≤ y by omega)
            have hM' := hM.fetch 0 y
            obtain ⟨L', hL'⟩ : ∃ L', L' = fetchL L 0 y := ⟨_, rfl⟩
            rw [← hL'] at e2 e3 ho hM'
            have HL' := Lib.hid hL'
            have HO := Lib.hid (ho 1 (by omega))
            have HE1 := Lib.hid e1
            have HE3 := Lib.hid e3
            have HXX := Lib.hid hX
            have hWl : W0.length ≤ 60 ∧ W1.length ≤ 60 := ⟨hw0, hw1⟩
            clear e1 e3 hX ho hL'
            have hx := (H.below.cell hblt).trans HX.out
            go_wp2_with fail
            refine (fetch_c (H.pull 3 rfl) hM 0 (by omega) (by omega) _).mono ?_; rintro e w' ⟨u, rfl, H⟩
            obtain ⟨xa, xc, rfl⟩ := H.rows_slice
            rw [show (0 : Int).toNat = 0 from rfl] at H ⊢
            rw [HXX.out, ← HL'.out] at H
            rw [HE1.out, HXX.out]
            clear hx
            have hx := (H.below.cell hblt).trans HX.out
            go_wp2_with ((with_reducible refine wpList_op rfl ?_); intro _ hK; first | (refine wp_get _ _ rfl rfl (by kernel_rfl) (raw_at (H.heap 2 rfl) rfl) (hK _ _ ?_)) | (refine wp_app_rows _ _ rfl rfl (H.pull 3 rfl) rfl 0 hFX rfl (by omega) (fun bb cc w' H => hK _ _ ?_)) | (refine wp_store_sl _ _ _ rfl rfl rfl (by kernel_rfl) rfl 3 H rfl (by simp) fun w' H => hK _ _ ?_))
            go_roundw
            case rel =>
              rw [← List.length_append] at H
              exact ⟨j + 1, by omega, by go_num, L', G0 ++ X, G1, _, _, _, _, hM', e2, HE3.out, (by rw [HO.out]; exact hg1), (((((((((H).pull 7 rfl).pull 7 rfl).pull 7 rfl).pull 5 rfl).pull 7 rfl).pull 5 rfl).pull 7 rfl).mask [true, true, true, true, true, true, true])⟩
            case measure => simp [intOf]; omega
          · obtain ⟨X, e1, hX, hXy, e2, e3, hFX, hlX, ho, _⟩ := once_fetch hM hl (k := 1) (by omega) hg1 (show 0 ≤ y by omega)
            have hM' := hM.fetch 1 y
            obtain ⟨L', hL'⟩ : ∃ L', L' = fetchL L 1 y := ⟨_, rfl⟩
            rw [← hL'] at e2 e3 ho hM'
            have HL' := Lib.hid hL'
            have HO := Lib.hid (ho 0 (by omega))
            have HE1 := Lib.hid e1
            have HE3 := Lib.hid e3
            have HXX := Lib.hid hX
            have hWl : W0.length ≤ 60 ∧ W1.length ≤ 60 := ⟨hw0, hw1⟩
            clear e1 e3 hX ho hL'
            have hx := (H.below.cell hblt).trans HX.out
            go_wp2_with fail
            refine (fetch_c (H.pull 3 rfl) hM 1 (by omega) (by omega) _).mono ?_; rintro e w' ⟨u, rfl, H⟩
            obtain ⟨xa, xc, rfl⟩ := H.rows_slice
            rw [show (1 : Int).toNat = 1 from rfl] at H ⊢
            rw [HXX.out, ← HL'.out] at H
            rw [HE1.out, HXX.out]
            clear hx
            have hx := (H.below.cell hblt).trans HX.out
            go_wp2_with ((with_reducible refine wpList_op rfl ?_); intro _ hK; first | (refine wp_get _ _ rfl rfl (by kernel_rfl) (raw_at (H.heap 2 rfl) rfl) (hK _ _ ?_)) | (refine wp_app_rows _ _ rfl rfl (H.pull 4 rfl) rfl 0 hFX rfl (by omega) (fun bb cc w' H => hK _ _ ?_)) | (refine wp_store_sl _ _ _ rfl rfl rfl (by kernel_rfl) rfl 3 H rfl (by simp) fun w' H => hK _ _ ?_))
            go_roundw
            case rel =>
              rw [← List.length_append] at H
              exact ⟨j + 1, by omega, by go_num, L', G0, G1 ++ X, _, _, _, _, hM', e2, (by rw [HO.out]; exact hg0), HE3.out, (((((((((H).pull 7 rfl).pull 7 rfl).pull 7 rfl).pull 5 rfl).pull 4 rfl).pull 7 rfl).pull 7 rfl).mask [true, true, true, true, true, true, true])⟩
            case measure => simp [intOf]; omega
        · go_wp2_with fail
      · go_wp2_with fail
  clear hK
  go_loopw [10] (fun i wr => ∃ j : Nat, (j : Int) ≤ 60 ∧ i = .int .i64 j ∧ OnceA w V m j wr) (fun i _ => 60 - (intOf i).toNat)
  case atStart => exact ⟨0, by omega, rfl, newL 2, [], [], _, _, _, _, hM0, by rw [length_new]; rfl, getD_new _ _, getD_new _ _, by simp, by simp, ((((((rows_start (rows_start H)).pull 3 rfl).pull 1 rfl).pull 2 rfl).pull 3 rfl).mask [true, true, true, true])⟩
  case round =>
    clear H hM0
    obtain ⟨j, hj, rfl, hA⟩ := hrel
    by_cases hj1 : (j : Int) < len
    · by_cases hj2 : (j : Int) < 60
      · clear tail
        obtain ⟨L, W0, W1, a0, c0, a1, c1, hM, hl, hg0, hg1, hw0, hw1, H⟩ := hA
        obtain ⟨ha, hblt, s, hs, hss⟩ := hcell j (by omega)
        subst ha
        clear hcell
        by_cases hj3 : (j : Int) < len2
        · obtain ⟨ha2, hblt2, x, hx⟩ := hcell2 j (by omega)
          subst ha2
          clear hcell2
          have hx' := (H.below.cell hblt2).trans hx
          clear hx
          cases x
          · have Hp := Lib.hid (put_facts (L := L) (k := 0) (by omega) (by rw [hg0]; omega) (bodyOf s))
            have hs' := (H.below.cell hblt).trans hs
            go_wp2_with fail
            refine (body_c H s hss).mono ?_; rintro e w' ⟨rfl, H⟩
            go_wp2_with fail
            refine (put_c (H.pull 3 rfl) hM 0 (by omega) (by omega) _ (bodyOf_length _)).mono ?_; rintro e w' ⟨rfl, H⟩
            rw [show (0 : Int).toNat = 0 from rfl] at H ⊢
            rw [Hp.out.1]
            go_wp2_with fail
            refine wpL_begin 12 (At w [raw V #[.slice a0 W0.length c0, .slice a1 W1.length c1] 50]) [(0, true), (1, true), (2, true), (3, true), (4, true), (5, true), (6, true), (7, true), (8, false), (9, false), (10, false), (11, true), (12, false)] rfl (by kernel_rfl) (by kernel_rfl) ((H.drew.mask [false, true])) ?_
            intro ops hOps hS
            replace H := H.drew
            refine wpL_take hOps hS rfl (fun _ _ _ h => h) (yl_move rfl _ rfl) ?_
            simp only [Act.put, Act.eval, List.setIfInBounds_toArray, List.set_cons_zero, List.set_cons_succ, Array.getD_eq_getD_getElem?, List.getElem?_toArray, List.getElem?_cons_zero, List.getElem?_cons_succ, Option.getD_some]
            refine wpL_take hOps hS rfl (fun _ _ _ h => h) (yl_move rfl _ rfl) ?_
            simp only [Act.put, Act.eval, List.setIfInBounds_toArray, List.set_cons_zero, List.set_cons_succ, Array.getD_eq_getD_getElem?, List.getElem?_toArray, List.getElem?_cons_zero, List.getElem?_cons_succ, Option.getD_some]
            refine wpL_take hOps hS (v := ?vOp179) rfl (fun _ _ _ h => h) (yl rfl ?yOp179) ?_
            case yOp179 => (intro w hw; go_simp; first | done | rfl)
            simp only [Act.put, Act.eval, List.setIfInBounds_toArray, List.set_cons_zero, List.set_cons_succ, Array.getD_eq_getD_getElem?, List.getElem?_toArray, List.getElem?_cons_zero, List.getElem?_cons_succ, Option.getD_some]
            refine wpL_take hOps hS rfl (fun _ _ _ h => h) (yl_get rfl _ _ rfl rfl (by kernel_rfl) (fun w hw => raw_at (At.heap hw 0 rfl) rfl)) ?_
            simp only [Act.put, Act.eval, List.setIfInBounds_toArray, List.set_cons_zero, List.set_cons_succ, Array.getD_eq_getD_getElem?, List.getElem?_toArray, List.getElem?_cons_zero, List.getElem?_cons_succ, Option.getD_some]
            refine wpL_take hOps hS rfl (fun _ _ _ h => h) (yl_move rfl _ rfl) ?_
            simp only [Act.put, Act.eval, List.setIfInBounds_toArray, List.set_cons_zero, List.set_cons_succ, Array.getD_eq_getD_getElem?, List.getElem?_toArray, List.getElem?_cons_zero, List.getElem?_cons_succ, Option.getD_some]
            refine wpL_take hOps hS rfl (fun _ _ _ h => h) (yl_move rfl _ rfl) ?_
            simp only [Act.put, Act.eval, List.setIfInBounds_toArray, List.set_cons_zero, List.set_cons_succ, Array.getD_eq_getD_getElem?, List.getElem?_toArray, List.getElem?_cons_zero, List.getElem?_cons_succ, Option.getD_some]
            refine wpL_take hOps hS (v := ?vOp189) rfl (fun _ _ _ h => h) (yl rfl ?yOp189) ?_
            case yOp189 => (intro w hw; go_simp; first | done | rfl)
            simp only [Act.put, Act.eval, List.setIfInBounds_toArray, List.set_cons_zero, List.set_cons_succ, Array.getD_eq_getD_getElem?, List.getElem?_toArray, List.getElem?_cons_zero, List.getElem?_cons_succ, Option.getD_some]
            refine wpL_take hOps hS rfl (fun _ _ _ h => h) (yl_get rfl _ _ rfl rfl (by kernel_rfl) (fun w hw => (Below.cell (At.below hw) hblt).trans hs)) ?_
            simp only [Act.put, Act.eval, List.setIfInBounds_toArray, List.set_cons_zero, List.set_cons_succ, Array.getD_eq_getD_getElem?, List.getElem?_toArray, List.getElem?_cons_zero, List.getElem?_cons_succ, Option.getD_some]
            refine wpL_next hOps rfl rfl ?_
            intro K hK
            refine wp_call _ _ _ rfl Try.func12 rfl (by kernel_rfl) ?_
            simp only [List.map_toArray, List.map_cons, List.map_nil, Act.eval, Array.getD_eq_getD_getElem?, List.getElem?_toArray, List.getElem?_cons_zero, List.getElem?_cons_succ, Option.getD_some]
            refine (body_c H s hss).mono ?_; rintro e w' ⟨rfl, H⟩
            have hS := (H.mask [false, true])
            refine hK _ _ hS ?_
            clear hK K
            simp only [Act.put, Act.eval, List.setIfInBounds_toArray, List.set_cons_zero, List.set_cons_succ, Array.getD_eq_getD_getElem?, List.getElem?_toArray, List.getElem?_cons_zero, List.getElem?_cons_succ, Option.getD_some]
            refine wpL_next hOps rfl rfl ?_
            intro K hK
            refine wp_buildSlice_sl (v := .agg (bv (bodyOf s))) _ _ rfl under_bodies info_body (by show (bv zb).size = 256; rw [bv_size]; exact List.length_replicate) rfl (by show (bv (bodyOf s)).size = 256; rw [bv_size, bodyOf_length]) (by omega) (by omega) H fun C w' (H : At w [raw C (bv (bodyOf s)) 34, _, _, _, _] w') _ => ?_
            have hS := (H.mask [false, false, true])
            refine hK _ _ hS ?_
            clear hK K
            simp only [Act.put, Act.eval, List.setIfInBounds_toArray, List.set_cons_zero, List.set_cons_succ, Array.getD_eq_getD_getElem?, List.getElem?_toArray, List.getElem?_cons_zero, List.getElem?_cons_succ, Option.getD_some]
            refine wpL_next hOps rfl rfl ?_
            intro K hK
            refine wp_app_one _ _ rfl rfl (H.pull 3 rfl) rfl 0 (bodyOf_length _) rfl (by omega) (fun bb cc w' H => ?_)
            have hS := (H.mask [false, false, false, true])
            refine hK _ _ hS ?_
            clear hK K
            simp only [Act.put, Act.eval, List.setIfInBounds_toArray, List.set_cons_zero, List.set_cons_succ, Array.getD_eq_getD_getElem?, List.getElem?_toArray, List.getElem?_cons_zero, List.getElem?_cons_succ, Option.getD_some]
            refine wpL_take hOps hS (v := ?vOp203) rfl (fun _ _ _ h => h) (yl rfl ?yOp203) ?_
            case yOp203 => (intro w hw; go_simp; first | done | rfl)
            simp only [Act.put, Act.eval, List.setIfInBounds_toArray, List.set_cons_zero, List.set_cons_succ, Array.getD_eq_getD_getElem?, List.getElem?_toArray, List.getElem?_cons_zero, List.getElem?_cons_succ, Option.getD_some]
            refine wpL_last hOps rfl rfl ?_
            intro K hK
            refine wp_store_sl _ _ _ rfl (v := .slice bb (W0 ++ [bodyOf s]).length cc) rfl rfl (by kernel_rfl) rfl 3 H rfl (by simp) fun w' H => ?_
            refine hK _ _ ?_
            clear hK K hOps hS ops
            simp only [Act.put, Act.eval, List.setIfInBounds_toArray, List.set_cons_zero, List.set_cons_succ, Array.getD_eq_getD_getElem?, List.getElem?_toArray, List.getElem?_cons_zero, List.getElem?_cons_succ, Option.getD_some]
            go_wp2
            go_roundw
            case rel => exact ⟨j + 1, by omega, by go_num, _, W0 ++ [bodyOf s], W1, _, _, _, _, hM.put _ (bodyOf_length _), Hp.out.2.1.trans hl, (by rw [Hp.out.2.2, hg0]), (by rw [put_other (by omega), hg1]), by first | (simp; done) | omega | (simp; omega), by first | (simp; done) | omega | (simp; omega), ((((((H).pull 2 rfl).pull 4 rfl).pull 2 rfl).pull 4 rfl).mask [true, true, true, true])⟩
            case measure => simp [intOf]; omega
          · have Hp := Lib.hid (put_facts (L := L) (k := 1) (by omega) (by rw [hg1]; omega) (bodyOf s))
            have hs' := (H.below.cell hblt).trans hs
            go_wp2_with fail
            refine (body_c H s hss).mono ?_; rintro e w' ⟨rfl, H⟩
            go_wp2_with fail
            refine (put_c (H.pull 3 rfl) hM 1 (by omega) (by omega) _ (bodyOf_length _)).mono ?_; rintro e w' ⟨rfl, H⟩
            rw [show (1 : Int).toNat = 1 from rfl] at H ⊢
            rw [Hp.out.1]
            go_wp2_with fail
            refine wpL_begin 12 (At w [raw V #[.slice a0 W0.length c0, .slice a1 W1.length c1] 50]) [(0, true), (1, true), (2, true), (3, true), (4, true), (5, true), (6, true), (7, true), (8, false), (9, false), (10, false), (11, true), (12, false)] rfl (by kernel_rfl) (by kernel_rfl) ((H.drew.mask [false, true])) ?_
            intro ops hOps hS
            replace H := H.drew
            refine wpL_take hOps hS rfl (fun _ _ _ h => h) (yl_move rfl _ rfl) ?_
            simp only [Act.put, Act.eval, List.setIfInBounds_toArray, List.set_cons_zero, List.set_cons_succ, Array.getD_eq_getD_getElem?, List.getElem?_toArray, List.getElem?_cons_zero, List.getElem?_cons_succ, Option.getD_some]
            refine wpL_take hOps hS rfl (fun _ _ _ h => h) (yl_move rfl _ rfl) ?_
            simp only [Act.put, Act.eval, List.setIfInBounds_toArray, List.set_cons_zero, List.set_cons_succ, Array.getD_eq_getD_getElem?, List.getElem?_toArray, List.getElem?_cons_zero, List.getElem?_cons_succ, Option.getD_some]
            refine wpL_take hOps hS (v := ?vOp216) rfl (fun _ _ _ h => h) (yl rfl ?yOp216) ?_
            case yOp216 => (intro w hw; go_simp; first | done | rfl)
            simp only [Act.put, Act.eval, List.setIfInBounds_toArray, List.set_cons_zero, List.set_cons_succ, Array.getD_eq_getD_getElem?, List.getElem?_toArray, List.getElem?_cons_zero, List.getElem?_cons_succ, Option.getD_some]
            refine wpL_take hOps hS rfl (fun _ _ _ h => h) (yl_get rfl _ _ rfl rfl (by kernel_rfl) (fun w hw => raw_at (At.heap hw 0 rfl) rfl)) ?_
            simp only [Act.put, Act.eval, List.setIfInBounds_toArray, List.set_cons_zero, List.set_cons_succ, Array.getD_eq_getD_getElem?, List.getElem?_toArray, List.getElem?_cons_zero, List.getElem?_cons_succ, Option.getD_some]
            refine wpL_take hOps hS rfl (fun _ _ _ h => h) (yl_move rfl _ rfl) ?_
            simp only [Act.put, Act.eval, List.setIfInBounds_toArray, List.set_cons_zero, List.set_cons_succ, Array.getD_eq_getD_getElem?, List.getElem?_toArray, List.getElem?_cons_zero, List.getElem?_cons_succ, Option.getD_some]
            refine wpL_take hOps hS rfl (fun _ _ _ h => h) (yl_move rfl _ rfl) ?_
            simp only [Act.put, Act.eval, List.setIfInBounds_toArray, List.set_cons_zero, List.set_cons_succ, Array.getD_eq_getD_getElem?, List.getElem?_toArray, List.getElem?_cons_zero, List.getElem?_cons_succ, Option.getD_some]
            refine wpL_take hOps hS (v := ?vOp226) rfl (fun _ _ _ h => h) (yl rfl ?yOp226) ?_
            case yOp226 => (intro w hw; go_simp; first | done | rfl)
            simp only [Act.put, Act.eval, List.setIfInBounds_toArray, List.set_cons_zero, List.set_cons_succ, Array.getD_eq_getD_getElem?, List.getElem?_toArray, List.getElem?_cons_zero, List.getElem?_cons_succ, Option.getD_some]
            refine wpL_take hOps hS rfl (fun _ _ _ h => h) (yl_get rfl _ _ rfl rfl (by kernel_rfl) (fun w hw => (Below.cell (At.below hw) hblt).trans hs)) ?_
            simp only [Act.put, Act.eval, List.setIfInBounds_toArray, List.set_cons_zero, List.set_cons_succ, Array.getD_eq_getD_getElem?, List.getElem?_toArray, List.getElem?_cons_zero, List.getElem?_cons_succ, Option.getD_some]
            refine wpL_next hOps rfl rfl ?_
            intro K hK
            refine wp_call _ _ _ rfl Try.func12 rfl (by kernel_rfl) ?_
            simp only [List.map_toArray, List.map_cons, List.map_nil, Act.eval, Array.getD_eq_getD_getElem?, List.getElem?_toArray, List.getElem?_cons_zero, List.getElem?_cons_succ, Option.getD_some]
            refine (body_c H s hss).mono ?_; rintro e w' ⟨rfl, H⟩
            have hS := (H.mask [false, true])
            refine hK _ _ hS ?_
            clear hK K
            simp only [Act.put, Act.eval, List.setIfInBounds_toArray, List.set_cons_zero, List.set_cons_succ, Array.getD_eq_getD_getElem?, List.getElem?_toArray, List.getElem?_cons_zero, List.getElem?_cons_succ, Option.getD_some]
            refine wpL_next hOps rfl rfl ?_
            intro K hK
            refine wp_buildSlice_sl (v := .agg (bv (bodyOf s))) _ _ rfl under_bodies info_body (by show (bv zb).size = 256; rw [bv_size]; exact List.length_replicate) rfl (by show (bv (bodyOf s)).size = 256; rw [bv_size, bodyOf_length]) (by omega) (by omega) H fun C w' (H : At w [raw C (bv (bodyOf s)) 34, _, _, _, _] w') _ => ?_
            have hS := (H.mask [false, false, true])
            refine hK _ _ hS ?_
            clear hK K
            simp only [Act.put, Act.eval, List.setIfInBounds_toArray, List.set_cons_zero, List.set_cons_succ, Array.getD_eq_getD_getElem?, List.getElem?_toArray, List.getElem?_cons_zero, List.getElem?_cons_succ, Option.getD_some]
            refine wpL_next hOps rfl rfl ?_
            intro K hK
            refine wp_app_one _ _ rfl rfl (H.pull 4 rfl) rfl 0 (bodyOf_length _) rfl (by omega) (fun bb cc w' H => ?_)
            have hS := (H.mask [false, false, false, true])
            refine hK _ _ hS ?_
            clear hK K
            simp only [Act.put, Act.eval, List.setIfInBounds_toArray, List.set_cons_zero, List.set_cons_succ, Array.getD_eq_getD_getElem?, List.getElem?_toArray, List.getElem?_cons_zero, List.getElem?_cons_succ, Option.getD_some]
            refine wpL_take hOps hS (v := ?vOp240) rfl (fun _ _ _ h => h) (yl rfl ?yOp240) ?_
            case yOp240 => (intro w hw; go_simp; first | done | rfl)
            simp only [Act.put, Act.eval, List.setIfInBounds_toArray, List.set_cons_zero, List.set_cons_succ, Array.getD_eq_getD_getElem?, List.getElem?_toArray, List.getElem?_cons_zero, List.getElem?_cons_succ, Option.getD_some]
            refine wpL_last hOps rfl rfl ?_
            intro K hK
            refine wp_store_sl _ _ _ rfl (v := .slice bb (W1 ++ [bodyOf s]).length cc) rfl rfl (by kernel_rfl) rfl 3 H rfl (by simp) fun w' H => ?_
            refine hK _ _ ?_
            clear hK K hOps hS ops
            simp only [Act.put, Act.eval, List.setIfInBounds_toArray, List.set_cons_zero, List.set_cons_succ, Array.getD_eq_getD_getElem?, List.getElem?_toArray, List.getElem?_cons_zero, List.getElem?_cons_succ, Option.getD_some]
            go_wp2
            go_roundw
            case rel => exact ⟨j + 1, by omega, by go_num, _, W0, W1 ++ [bodyOf s], _, _, _, _, hM.put _ (bodyOf_length _), Hp.out.2.1.trans hl, (by rw [put_other (by omega), hg0]), (by rw [Hp.out.2.2, hg1]), by first | (simp; done) | omega | (simp; omega), by first | (simp; done) | omega | (simp; omega), ((((((H).pull 2 rfl).pull 1 rfl).pull 4 rfl).pull 4 rfl).mask [true, true, true, true])⟩
            case measure => simp [intOf]; omega
        · have Hp := Lib.hid (put_facts (L := L) (k := 0) (by omega) (by rw [hg0]; omega) (bodyOf s))
          have hs' := (H.below.cell hblt).trans hs
          go_wp2_with fail
          refine (body_c H s hss).mono ?_; rintro e w' ⟨rfl, H⟩
          go_wp2_with fail
          refine (put_c (H.pull 3 rfl) hM 0 (by omega) (by omega) _ (bodyOf_length _)).mono ?_; rintro e w' ⟨rfl, H⟩
          rw [show (0 : Int).toNat = 0 from rfl] at H ⊢
          rw [Hp.out.1]
          go_wp2_with fail
          refine wpL_begin 12 (At w [raw V #[.slice a0 W0.length c0, .slice a1 W1.length c1] 50]) [(0, true), (1, true), (2, true), (3, true), (4, true), (5, true), (6, true), (7, true), (8, false), (9, false), (10, false), (11, true), (12, false)] rfl (by kernel_rfl) (by kernel_rfl) ((H.drew.mask [false, true])) ?_
          intro ops hOps hS
          replace H := H.drew
          refine wpL_take hOps hS rfl (fun _ _ _ h => h) (yl_move rfl _ rfl) ?_
          simp only [Act.put, Act.eval, List.setIfInBounds_toArray, List.set_cons_zero, List.set_cons_succ, Array.getD_eq_getD_getElem?, List.getElem?_toArray, List.getElem?_cons_zero, List.getElem?_cons_succ, Option.getD_some]
          refine wpL_take hOps hS rfl (fun _ _ _ h => h) (yl_move rfl _ rfl) ?_
          simp only [Act.put, Act.eval, List.setIfInBounds_toArray, List.set_cons_zero, List.set_cons_succ, Array.getD_eq_getD_getElem?, List.getElem?_toArray, List.getElem?_cons_zero, List.getElem?_cons_succ, Option.getD_some]
          refine wpL_take hOps hS (v := ?vOp253) rfl (fun _ _ _ h => h) (yl rfl ?yOp253) ?_
          case yOp253 => (intro w hw; go_simp; first | done | rfl)
          simp only [Act.put, Act.eval, List.setIfInBounds_toArray, List.set_cons_zero, List.set_cons_succ, Array.getD_eq_getD_getElem?, List.getElem?_toArray, List.getElem?_cons_zero, List.getElem?_cons_succ, Option.getD_some]
          refine wpL_take hOps hS rfl (fun _ _ _ h => h) (yl_get rfl _ _ rfl rfl (by kernel_rfl) (fun w hw => raw_at (At.heap hw 0 rfl) rfl)) ?_
          simp only [Act.put, Act.eval, List.setIfInBounds_toArray, List.set_cons_zero, List.set_cons_succ, Array.getD_eq_getD_getElem?, List.getElem?_toArray, List.getElem?_cons_zero, List.getElem?_cons_succ, Option.getD_some]
          refine wpL_take hOps hS rfl (fun _ _ _ h => h) (yl_move rfl _ rfl) ?_
          simp only [Act.put, Act.eval, List.setIfInBounds_toArray, List.set_cons_zero, List.set_cons_succ, Array.getD_eq_getD_getElem?, List.getElem?_toArray, List.getElem?_cons_zero, List.getElem?_cons_succ, Option.getD_some]
          refine wpL_take hOps hS rfl (fun _ _ _ h => h) (yl_move rfl _ rfl) ?_
          simp only [Act.put, Act.eval, List.setIfInBounds_toArray, List.set_cons_zero, List.set_cons_succ, Array.getD_eq_getD_getElem?, List.getElem?_toArray, List.getElem?_cons_zero, List.getElem?_cons_succ, Option.getD_some]
          refine wpL_take hOps hS (v := ?vOp263) rfl (fun _ _ _ h => h) (yl rfl ?yOp263) ?_
          case yOp263 => (intro w hw; go_simp; first | done | rfl)
          simp only [Act.put, Act.eval, List.setIfInBounds_toArray, List.set_cons_zero, List.set_cons_succ, Array.getD_eq_getD_getElem?, List.getElem?_toArray, List.getElem?_cons_zero, List.getElem?_cons_succ, Option.getD_some]
          refine wpL_take hOps hS rfl (fun _ _ _ h => h) (yl_get rfl _ _ rfl rfl (by kernel_rfl) (fun w hw => (Below.cell (At.below hw) hblt).trans hs)) ?_
          simp only [Act.put, Act.eval, List.setIfInBounds_toArray, List.set_cons_zero, List.set_cons_succ, Array.getD_eq_getD_getElem?, List.getElem?_toArray, List.getElem?_cons_zero, List.getElem?_cons_succ, Option.getD_some]
          refine wpL_next hOps rfl rfl ?_
          intro K hK
          refine wp_call _ _ _ rfl Try.func12 rfl (by kernel_rfl) ?_
          simp only [List.map_toArray, List.map_cons, List.map_nil, Act.eval, Array.getD_eq_getD_getElem?, List.getElem?_toArray, List.getElem?_cons_zero, List.getElem?_cons_succ, Option.getD_some]
          refine (body_c H s hss).mono ?_; rintro e w' ⟨rfl, H⟩
          have hS := (H.mask [false, true])
          refine hK _ _ hS ?_
          clear hK K
          simp only [Act.put, Act.eval, List.setIfInBounds_toArray, List.set_cons_zero, List.set_cons_succ, Array.getD_eq_getD_getElem?, List.getElem?_toArray, List.getElem?_cons_zero, List.getElem?_cons_succ, Option.getD_some]
          refine wpL_next hOps rfl rfl ?_
          intro K hK
          refine wp_buildSlice_sl (v := .agg (bv (bodyOf s))) _ _ rfl under_bodies info_body (by show (bv zb).size = 256; rw [bv_size]; exact List.length_replicate) rfl (by show (bv (bodyOf s)).size = 256; rw [bv_size, bodyOf_length]) (by omega) (by omega) H fun C w' (H : At w [raw C (bv (bodyOf s)) 34, _, _, _, _] w') _ => ?_
          have hS := (H.mask [false, false, true])
          refine hK _ _ hS ?_
          clear hK K
          simp only [Act.put, Act.eval, List.setIfInBounds_toArray, List.set_cons_zero, List.set_cons_succ, Array.getD_eq_getD_getElem?, List.getElem?_toArray, List.getElem?_cons_zero, List.getElem?_cons_succ, Option.getD_some]
          refine wpL_next hOps rfl rfl ?_
          intro K hK
          refine wp_app_one _ _ rfl rfl (H.pull 3 rfl) rfl 0 (bodyOf_length _) rfl (by omega) (fun bb cc w' H => ?_)
          have hS := (H.mask [false, false, false, true])
          refine hK _ _ hS ?_
          clear hK K
          simp only [Act.put, Act.eval, List.setIfInBounds_toArray, List.set_cons_zero, List.set_cons_succ, Array.getD_eq_getD_getElem?, List.getElem?_toArray, List.getElem?_cons_zero, List.getElem?_cons_succ, Option.getD_some]
          refine wpL_take hOps hS (v := ?vOp277) rfl (fun _ _ _ h => h) (yl rfl ?yOp277) ?_
          case yOp277 => (intro w hw; go_simp; first | done | rfl)
          simp only [Act.put, Act.eval, List.setIfInBounds_toArray, List.set_cons_zero, List.set_cons_succ, Array.getD_eq_getD_getElem?, List.getElem?_toArray, List.getElem?_cons_zero, List.getElem?_cons_succ, Option.getD_some]
          refine wpL_last hOps rfl rfl ?_
          intro K hK
          refine wp_store_sl _ _ _ rfl (v := .slice bb (W0 ++ [bodyOf s]).length cc) rfl rfl (by kernel_rfl) rfl 3 H rfl (by simp) fun w' H => ?_
          refine hK _ _ ?_
          clear hK K hOps hS ops
          simp only [Act.put, Act.eval, List.setIfInBounds_toArray, List.set_cons_zero, List.set_cons_succ, Array.getD_eq_getD_getElem?, List.getElem?_toArray, List.getElem?_cons_zero, List.getElem?_cons_succ, Option.getD_some]
          go_wp2
          go_roundw
          case rel => exact ⟨j + 1, by omega, by go_num, _, W0 ++ [bodyOf s], W1, _, _, _, _, hM.put _ (bodyOf_length _), Hp.out.2.1.trans hl, (by rw [Hp.out.2.2, hg0]), (by rw [put_other (by omega), hg1]), by first | (simp; done) | omega | (simp; omega), by first | (simp; done) | omega | (simp; omega), ((((((H).pull 2 rfl).pull 4 rfl).pull 2 rfl).pull 4 rfl).mask [true, true, true, true])⟩
          case measure => simp [intOf]; omega
      · go_wp2_with fail
        exact hA.mono (by omega)
    · go_wp2_with fail
      exact hA.mono (by omega)
theorem mailboxOnce_own : ownKnob Try.prog.godebug = none := by kernel_rfl
theorem mailboxOnce_laid : laidOutB Try.prog = true := by kernel_rfl
set_option maxRecDepth 100000 in
theorem mailboxOnce_lifted (os : Os) (started : os.Started) (H : Type) (enc : TypeId × Value → H) :
    ReturnsInHanded {} Try.checked os 4 .any (Rows.mailboxOnceSpec.pre6 enc Try.prog Try.f4 Rows.mailboxOnceRow.domain false) (Rows.mailboxOnceSpec.post enc Try.prog Try.f4 false true false false) := by
  refine returnsInHanded_of_change (C := Try.checked) mailboxOnce_own started (by kernel_rfl) Try.func4
    (ChangeSpec.witness6 (enc := enc) (C := Try.checked) false ⟨#[], #[.slice none 0 0, .slice none 0 0, .slice none 0 0], []⟩ 8 (by kernel_rfl) (by kernel_rfl) (by kernel_rfl) (by kernel_rfl)) ?_
  intro W base args ds gs before hval0 hW hcnd _
  have hval : ∀ (j : Nat) t v, Try.f4.params[j]? = some t → args[j]? = some v → Value.okWide Try.prog W .any base t v := hval0
  have hW' := hW
  obtain ⟨p, q, hA0, hV, rfl, hfz, hnd⟩ := hW
  have hA : DataW.TrodAll enc Try.prog W 0 (fun _ => true) true Try.f4.params.toList args.toList ds p := hA0
  rw [Try.params4] at hA hval
  obtain ⟨v0, vs0, d0, ds0, p0, q0, hargs, rfl, rfl, h0, r0⟩ := trodAll_cons hA
  obtain ⟨v1, vs1, d1, ds1, p1, q1, rfl, rfl, rfl, h1, r1⟩ := trodAll_cons r0
  obtain ⟨v2, vs2, d2, ds2, p2, q2, rfl, rfl, rfl, h2, r2⟩ := trodAll_cons r1
  obtain ⟨rfl, rfl, rfl⟩ := trodAll_nil r2
  obtain rfl : args = #[v0, v1, v2] := by cases args; simp_all
  obtain ⟨rfl, rfl⟩ := trodVars_none hV
  have k0 := h0
  have lt0 : ∀ x ∈ p0, x.block < W.heap.size := by obtain ⟨m, hm⟩ := k0; exact DataW.trod_lt m _ _ _ hm
  have k1 := h1
  have lt1 : ∀ x ∈ p1, x.block < W.heap.size := by obtain ⟨m, hm⟩ := k1; exact DataW.trod_lt m _ _ _ hm
  have k2 := h2
  have lt2 : ∀ x ∈ p2, x.block < W.heap.size := by obtain ⟨m, hm⟩ := k2; exact DataW.trod_lt m _ _ _ hm
  obtain ⟨a0_0, a0_1, a0_2, f0, rfl⟩ := open_strings_row (hval 0 43 v0 rfl rfl) h0
  obtain ⟨a1_0, a1_1, a1_2, f1, rfl⟩ := open_bools_row (hval 1 49 v1 rfl rfl) h1
  obtain ⟨a2, len2, cap2, rfl⟩ := okWide_slice Try.underlying39 (hval 2 39 v2 rfl rfl)
  have f2 : IntRow .u8 W a2 len2 := by
    obtain ⟨fuel, hf⟩ := h2
    rcases open_ints Try.underlying39 Try.underlying5 (by kernel_rfl) hf with ⟨hcs, _⟩ | ⟨x, l, c, zs, hcs, _, hl, hm, hz, _, hcell, hwz⟩
    · simp [Value.cells] at hcs
      obtain ⟨rfl, rfl, rfl⟩ := hcs
      exact intRow_of (cap := 0) (zs := []) (.inl ⟨rfl, rfl⟩)
    · simp [Value.cells] at hcs
      obtain ⟨rfl, rfl, rfl⟩ := hcs
      exact intRow_of (.inr ⟨_, rfl, hl, hm, by simpa using hz, hcell, hwz⟩)
  clear hA0 hval0
  refine (mailboxOnce_walk a0_0 a0_1 a0_2 a1_0 a1_1 a1_2 a2 len2 cap2 W f0 f1 f2).mono fun e W' ⟨he, bel⟩ => ?_
  subst he
  exact ⟨_, rfl, _, _, _, [], _, [], hW', trodAll_mk1 (shut_bool Try.underlying4 _), (trodAll_cons_mk (Below.trod mailboxOnce_laid (by kernel_rfl) (of_decide_eq_true (by kernel_rfl)) k0 bel lt0) (trodAll_cons_mk (Below.trod mailboxOnce_laid (by kernel_rfl) (of_decide_eq_true (by kernel_rfl)) k1 bel lt1) (trodAll_cons_mk (Below.trod mailboxOnce_laid (by kernel_rfl) (of_decide_eq_true (by kernel_rfl)) k2 bel lt2) trodAll_mk0))), rfl, bel.frame _, fun h => by cases h⟩
theorem mailboxOnce_holds : Rows.MailboxOnceSaid :=
  OpenClaim.holds_of_wide 4 Try.f4 rfl rfl rfl rfl rfl rfl rfl ⟨rfl, rfl, rfl, rfl, rfl⟩ rfl rfl rfl rfl rfl (by kernel_rfl) Try.func4 (by kernel_rfl)
    (of_decide_eq_true (by kernel_rfl)) (by unfold Func.isWrapper; first | (rw [if_pos (by decide +kernel)]; kernel_rfl) | (rw [if_neg (by decide +kernel)]; exact ⟨rfl, rfl⟩))
    (fun os started H enc _ => mailboxOnce_lifted os started H enc)
#print axioms mailboxOnce_holds
end Go.Proofs.Ytogicnbocefkbaa
