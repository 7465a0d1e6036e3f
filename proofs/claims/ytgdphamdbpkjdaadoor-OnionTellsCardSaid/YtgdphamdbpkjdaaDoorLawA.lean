/-
  Chapter 11: what the statements' walks share: what a build gives is a packet; packets, hops, MACs that are compared.
-/
import Derived.Test.YtgdphamdbpkjdaaDoorShown
import Derived.Test.YtgdphamdbpkjdaaDoorHgD
namespace Go.Proofs.YtgdphamdbpkjdaaDoor
open Go.RowKit Go.Hg
set_option linter.unusedSimpArgs false
set_option linter.unusedVariables false
theorem bldP_ok {hops : List HopO} {box : Nat} {body : List (BitVec 8)} (hbox : box < 65536) (hb : body.length = 256) : (BldP (buildOf (hops.map (·.1)) box body)).ok := by
  by_cases h : hops.length < 1 ∨ 5 < hops.length
  · have e : buildOf (hops.map (·.1)) box body = none := by
      unfold buildOf
      rw [if_pos (by rw [List.length_map]; exact h)]
    rw [e]
    exact PktD.zero_ok
  · cases e : buildOf (hops.map (·.1)) box body with
    | none => exact PktD.zero_ok
    | some p =>
      rw [buildOf_F (by rw [List.length_map]; omega) (by rw [List.length_map]; omega)] at e
      cases hops with
      | nil => simp at h
      | cons x xs =>
        rw [List.map_cons] at e
        exact (layer_all hbox hb (xs.map (·.1)) x.1 [] p (fun y hy => by
          rw [← List.map_cons (f := Subtype.val)] at hy
          obtain ⟨z, _, rfl⟩ := List.mem_map.1 hy
          exact z.2) (by simp at h ⊢; omega) e).ok
theorem u16_nat {a : Int} (h : (Lit.int .u16 a).wf = true) : ∃ n : Nat, n < 65536 ∧ a = (n : Int) := by
  have e1 : IntKind.u16.min = 0 := rfl
  have e2 : IntKind.u16.max = 65535 := rfl
  simp [Lit.wf, e1, e2] at h
  exact ⟨a.toNat, by omega, by omega⟩
theorem flat_pkt : flatK Tryd.prog 6 39 = some PktD.kinds := by kernel_rfl
theorem flat_hop : flatK Tryd.prog 6 35 = some HopD.kinds := by kernel_rfl
theorem eql_pkt {p : PktD} (hp : p.ok) (w : World) (o : Oper) (ρ : Operand → Value) (x y : Operand) (yt : TypeId) (ho : o.op = .binOp .eql 39 x y yt) (hx : ρ x = .agg p.cells.toArray) (hy : ρ y = .agg p.cells.toArray) : (execOp ρ o).run Tryd.prog w = .ok (.value (.bool true)) w := by
  rw [exec_eql_flat (m := 6) ho hx hy (by omega) (by kernel_rfl) (by kernel_rfl) flat_pkt (by kernel_rfl) (by kernel_rfl) (PktD.fits_cells hp) (PktD.fits_cells hp), eqB_refl]
theorem neq_hop {h : HopD} (hp : h.ok) (w : World) (o : Oper) (ρ : Operand → Value) (x y : Operand) (yt : TypeId) (ho : o.op = .binOp .neq 35 x y yt) (hx : ρ x = .agg h.cells.toArray) (hy : ρ y = .agg h.cells.toArray) : (execOp ρ o).run Tryd.prog w = .ok (.value (.bool false)) w := by
  rw [exec_neq_flat (m := 6) ho hx hy (by omega) (by kernel_rfl) (by kernel_rfl) flat_hop (by kernel_rfl) (by kernel_rfl) (HopD.fits_cells hp) (HopD.fits_cells hp), eqB_refl]; rfl

theorem neq_nonce {a : List (BitVec 8)} (ha : a.length = 16) (w : World) (o : Oper) (ρ : Operand → Value) (x y : Operand) (yt : TypeId) (ho : o.op = .binOp .neq 32 x y yt) (hx : ρ x = .agg (v8 a).toArray) (hy : ρ y = .agg (v8 a).toArray) : (execOp ρ o).run Tryd.prog w = .ok (.value (.bool false)) w := by
  rw [exec_neq_flat (m := 4) (ks := List.replicate 16 (.i .u8)) ho hx hy (by omega) (by kernel_rfl) (by kernel_rfl) (by kernel_rfl) (by kernel_rfl) (by kernel_rfl) (fits_v8n ha) (fits_v8n ha), eqB_refl]; rfl
theorem neq_mac {a : List (BitVec 8)} (ha : a.length = 16) (w : World) (o : Oper) (ρ : Operand → Value) (x y : Operand) (yt : TypeId) (ho : o.op = .binOp .neq 36 x y yt) (hx : ρ x = .agg (v8 a).toArray) (hy : ρ y = .agg (v8 a).toArray) : (execOp ρ o).run Tryd.prog w = .ok (.value (.bool false)) w := by
  rw [exec_neq_flat (m := 4) (ks := List.replicate 16 (.i .u8)) ho hx hy (by omega) (by kernel_rfl) (by kernel_rfl) (by kernel_rfl) (by kernel_rfl) (by kernel_rfl) (fits_v8n ha) (fits_v8n ha), eqB_refl]; rfl
theorem neq_slot {s : SlotD} (hs : s.ok) (w : World) (o : Oper) (ρ : Operand → Value) (x y : Operand) (yt : TypeId) (ho : o.op = .binOp .neq 45 x y yt) (hx : ρ x = .agg s.cells.toArray) (hy : ρ y = .agg s.cells.toArray) : (execOp ρ o).run Tryd.prog w = .ok (.value (.bool false)) w := by
  rw [exec_neq_flat (m := 6) (ks := SlotD.kinds) ho hx hy (by omega) (by kernel_rfl) (by kernel_rfl) (by kernel_rfl) (by kernel_rfl) (by kernel_rfl) (SlotD.fits_cells hs) (SlotD.fits_cells hs), eqB_refl]; rfl
end Go.Proofs.YtgdphamdbpkjdaaDoor
