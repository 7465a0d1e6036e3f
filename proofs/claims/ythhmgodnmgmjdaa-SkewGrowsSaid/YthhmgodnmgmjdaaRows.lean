/-
  No cell of these rows narrows 'for every input' (looked for: loops, veiled, ifaces, maps, wideKeys, modest, calm, conditions, laid).
  DERIVED. THE GIVEN ROWS OF THIS SEAT. 9 by the template 'for every input the law returns true; each argument reads behind the call as it read before'; 0 by the template 'total and deterministic' (their statements: YthhmgodnmgmjdaaTotals.lean).
  GIVEN WITH THE SEED: the statements are not yours to turn. If you find one false, say at which input.
  Laid BY PROGRAM, IN A SANDBOX (cutbox-rows.mjs): the forced cells as the released guide's own fill.sh prints them over the translation 47b0e06050ac1866… (all of the seat's roots in one cut). By AI agents, Wed Nov 11 2026. No macro, syntax, notation, axiom, sorry.
-/
import Derived.Test.YthhmgodnmgmjdaaChecked
import GoSem.Claim
import GoSem.ClaimJoined
import GoSem.ClaimMapViews
import Derived.JoinedTies
import Derived.KernelRfl
namespace Go.Proofs.Ythhmgodnmgmjdaa
/- THE CELL 'sum', in the pinned program and in every row, IS THE sha256 OF THE DUMP (.gsa) THAT YthhmgodnmgmjdaaProg.lean LOADS. Nothing in Lean hashes anything: it is a label: what it is worth is what the hold of that sum in a sandbox is worth. -/
noncomputable def Try.pinned : Pinned := { name := "ythhmgodnmgmjdaa", sum := "47b0e06050ac18667cfe2b89115b992c0747c89ba1435550413a54509c1c9673", checked := Try.checked }
namespace Rows
def none {H : Type} : Left H := { results := [], args := [] }

/-- 'hourglasslaw14.SkewTells': WHATEVER THE INPUT: true; the input reads as it did. -/
def skewTellsSpec : ChangeSpec := { name := "skewTells", fn := fun _ => fun
  | [d] => { results := [.lit (.bool true)], args := [d] }
  | _ => none }
def skewTellsRow : OpenClaim := { program := "ythhmgodnmgmjdaa", sum := "47b0e06050ac18667cfe2b89115b992c0747c89ba1435550413a54509c1c9673", func := "hourglass/hourglasslaw14.SkewTells", spec := "skewTells", unfollowed := true, recurses := true, apart := false }
def SkewTellsSaid : Prop := skewTellsRow.holds Try.pinned (OpenSpec.ofChange skewTellsSpec)

/-- ITS FALSE NEIGHBOUR: 'it returns false'. Refute it at one input. -/
def skewTellsWrong : ChangeSpec := { name := "skewTells", fn := fun _ => fun
  | [d] => { results := [.lit (.bool false)], args := [d] }
  | _ => none }
def SkewTellsWrongFalsely : Prop := skewTellsRow.holds Try.pinned (OpenSpec.ofChange skewTellsWrong)

/-- 'hourglasslaw14.SkewWithin': WHATEVER THE INPUT: true; the input reads as it did. -/
def skewWithinSpec : ChangeSpec := { name := "skewWithin", fn := fun _ => fun
  | [d1, d2, d3] => { results := [.lit (.bool true)], args := [d1, d2, d3] }
  | _ => none }
def skewWithinRow : OpenClaim := { program := "ythhmgodnmgmjdaa", sum := "47b0e06050ac18667cfe2b89115b992c0747c89ba1435550413a54509c1c9673", func := "hourglass/hourglasslaw14.SkewWithin", spec := "skewWithin", unfollowed := true, recurses := true, apart := false }
def SkewWithinSaid : Prop := skewWithinRow.holds Try.pinned (OpenSpec.ofChange skewWithinSpec)

/-- ITS FALSE NEIGHBOUR: 'it returns false'. Refute it at one input. -/
def skewWithinWrong : ChangeSpec := { name := "skewWithin", fn := fun _ => fun
  | [d1, d2, d3] => { results := [.lit (.bool false)], args := [d1, d2, d3] }
  | _ => none }
def SkewWithinWrongFalsely : Prop := skewWithinRow.holds Try.pinned (OpenSpec.ofChange skewWithinWrong)

/-- 'hourglasslaw14.SkewForgets': WHATEVER THE INPUT: true; the input reads as it did. -/
def skewForgetsSpec : ChangeSpec := { name := "skewForgets", fn := fun _ => fun
  | [d1, d2] => { results := [.lit (.bool true)], args := [d1, d2] }
  | _ => none }
def skewForgetsRow : OpenClaim := { program := "ythhmgodnmgmjdaa", sum := "47b0e06050ac18667cfe2b89115b992c0747c89ba1435550413a54509c1c9673", func := "hourglass/hourglasslaw14.SkewForgets", spec := "skewForgets", unfollowed := true, recurses := true, apart := false }
def SkewForgetsSaid : Prop := skewForgetsRow.holds Try.pinned (OpenSpec.ofChange skewForgetsSpec)

/-- ITS FALSE NEIGHBOUR: 'it returns false'. Refute it at one input. -/
def skewForgetsWrong : ChangeSpec := { name := "skewForgets", fn := fun _ => fun
  | [d1, d2] => { results := [.lit (.bool false)], args := [d1, d2] }
  | _ => none }
def SkewForgetsWrongFalsely : Prop := skewForgetsRow.holds Try.pinned (OpenSpec.ofChange skewForgetsWrong)

/-- 'hourglasslaw14.SkewTurned': WHATEVER THE INPUT: true; the input reads as it did. -/
def skewTurnedSpec : ChangeSpec := { name := "skewTurned", fn := fun _ => fun
  | [d] => { results := [.lit (.bool true)], args := [d] }
  | _ => none }
def skewTurnedRow : OpenClaim := { program := "ythhmgodnmgmjdaa", sum := "47b0e06050ac18667cfe2b89115b992c0747c89ba1435550413a54509c1c9673", func := "hourglass/hourglasslaw14.SkewTurned", spec := "skewTurned", unfollowed := true, recurses := true, apart := false }
def SkewTurnedSaid : Prop := skewTurnedRow.holds Try.pinned (OpenSpec.ofChange skewTurnedSpec)

/-- ITS FALSE NEIGHBOUR: 'it returns false'. Refute it at one input. -/
def skewTurnedWrong : ChangeSpec := { name := "skewTurned", fn := fun _ => fun
  | [d] => { results := [.lit (.bool false)], args := [d] }
  | _ => none }
def SkewTurnedWrongFalsely : Prop := skewTurnedRow.holds Try.pinned (OpenSpec.ofChange skewTurnedWrong)

/-- 'hourglasslaw14.SkewMoved': WHATEVER THE INPUT: true; the input reads as it did. -/
def skewMovedSpec : ChangeSpec := { name := "skewMoved", fn := fun _ => fun
  | [d1, d2, d3] => { results := [.lit (.bool true)], args := [d1, d2, d3] }
  | _ => none }
def skewMovedRow : OpenClaim := { program := "ythhmgodnmgmjdaa", sum := "47b0e06050ac18667cfe2b89115b992c0747c89ba1435550413a54509c1c9673", func := "hourglass/hourglasslaw14.SkewMoved", spec := "skewMoved", unfollowed := true, recurses := true, apart := false }
def SkewMovedSaid : Prop := skewMovedRow.holds Try.pinned (OpenSpec.ofChange skewMovedSpec)

/-- ITS FALSE NEIGHBOUR: 'it returns false'. Refute it at one input. -/
def skewMovedWrong : ChangeSpec := { name := "skewMoved", fn := fun _ => fun
  | [d1, d2, d3] => { results := [.lit (.bool false)], args := [d1, d2, d3] }
  | _ => none }
def SkewMovedWrongFalsely : Prop := skewMovedRow.holds Try.pinned (OpenSpec.ofChange skewMovedWrong)

/-- 'hourglasslaw14.SkewOrder': WHATEVER THE INPUT: true; the input reads as it did. -/
def skewOrderSpec : ChangeSpec := { name := "skewOrder", fn := fun _ => fun
  | [d] => { results := [.lit (.bool true)], args := [d] }
  | _ => none }
def skewOrderRow : OpenClaim := { program := "ythhmgodnmgmjdaa", sum := "47b0e06050ac18667cfe2b89115b992c0747c89ba1435550413a54509c1c9673", func := "hourglass/hourglasslaw14.SkewOrder", spec := "skewOrder", unfollowed := true, recurses := true, apart := false }
def SkewOrderSaid : Prop := skewOrderRow.holds Try.pinned (OpenSpec.ofChange skewOrderSpec)

/-- ITS FALSE NEIGHBOUR: 'it returns false'. Refute it at one input. -/
def skewOrderWrong : ChangeSpec := { name := "skewOrder", fn := fun _ => fun
  | [d] => { results := [.lit (.bool false)], args := [d] }
  | _ => none }
def SkewOrderWrongFalsely : Prop := skewOrderRow.holds Try.pinned (OpenSpec.ofChange skewOrderWrong)

/-- 'hourglasslaw14.SkewFar': WHATEVER THE INPUT: true; the input reads as it did. -/
def skewFarSpec : ChangeSpec := { name := "skewFar", fn := fun _ => fun
  | [d1, d2] => { results := [.lit (.bool true)], args := [d1, d2] }
  | _ => none }
def skewFarRow : OpenClaim := { program := "ythhmgodnmgmjdaa", sum := "47b0e06050ac18667cfe2b89115b992c0747c89ba1435550413a54509c1c9673", func := "hourglass/hourglasslaw14.SkewFar", spec := "skewFar", unfollowed := true, recurses := true, apart := false }
def SkewFarSaid : Prop := skewFarRow.holds Try.pinned (OpenSpec.ofChange skewFarSpec)

/-- ITS FALSE NEIGHBOUR: 'it returns false'. Refute it at one input. -/
def skewFarWrong : ChangeSpec := { name := "skewFar", fn := fun _ => fun
  | [d1, d2] => { results := [.lit (.bool false)], args := [d1, d2] }
  | _ => none }
def SkewFarWrongFalsely : Prop := skewFarRow.holds Try.pinned (OpenSpec.ofChange skewFarWrong)

/-- 'hourglasslaw14.SkewGrows': WHATEVER THE INPUT: true; the input reads as it did. -/
def skewGrowsSpec : ChangeSpec := { name := "skewGrows", fn := fun _ => fun
  | [d1, d2] => { results := [.lit (.bool true)], args := [d1, d2] }
  | _ => none }
def skewGrowsRow : OpenClaim := { program := "ythhmgodnmgmjdaa", sum := "47b0e06050ac18667cfe2b89115b992c0747c89ba1435550413a54509c1c9673", func := "hourglass/hourglasslaw14.SkewGrows", spec := "skewGrows", unfollowed := true, recurses := true, apart := false }
def SkewGrowsSaid : Prop := skewGrowsRow.holds Try.pinned (OpenSpec.ofChange skewGrowsSpec)

/-- ITS FALSE NEIGHBOUR: 'it returns false'. Refute it at one input. -/
def skewGrowsWrong : ChangeSpec := { name := "skewGrows", fn := fun _ => fun
  | [d1, d2] => { results := [.lit (.bool false)], args := [d1, d2] }
  | _ => none }
def SkewGrowsWrongFalsely : Prop := skewGrowsRow.holds Try.pinned (OpenSpec.ofChange skewGrowsWrong)

/-- 'hourglasslaw14.SkewSame': WHATEVER THE INPUT: true; the input reads as it did. -/
def skewSameSpec : ChangeSpec := { name := "skewSame", fn := fun _ => fun
  | [d1, d2] => { results := [.lit (.bool true)], args := [d1, d2] }
  | _ => none }
def skewSameRow : OpenClaim := { program := "ythhmgodnmgmjdaa", sum := "47b0e06050ac18667cfe2b89115b992c0747c89ba1435550413a54509c1c9673", func := "hourglass/hourglasslaw14.SkewSame", spec := "skewSame", unfollowed := true, recurses := true, apart := false }
def SkewSameSaid : Prop := skewSameRow.holds Try.pinned (OpenSpec.ofChange skewSameSpec)

/-- ITS FALSE NEIGHBOUR: 'it returns false'. Refute it at one input. -/
def skewSameWrong : ChangeSpec := { name := "skewSame", fn := fun _ => fun
  | [d1, d2] => { results := [.lit (.bool false)], args := [d1, d2] }
  | _ => none }
def SkewSameWrongFalsely : Prop := skewSameRow.holds Try.pinned (OpenSpec.ofChange skewSameWrong)

/- THE SECOND FORM. 'bulk': how many values and letters a reading holds, each counted each time it is reached (what is shared counts as often as it is met; a slice's spare places count too). A statement '..UptoSaid' is the law's where the arguments, and the package variables that the reading takes, are together of bulk at most 1048576: NARROWER than '..Said'. Prove '..Said' where nothing that the law and all that it calls make is longer than what came in: it says more and counts as full. Else prove '..UptoSaid'. A law counts once. -/
mutual
def uptoBulk {H : Type} : DataW H → Nat
  | .lit (.string bytes) => bytes.length + 1
  | .lit _ => 1
  | .nil => 1
  | .ptr d => uptoBulk d + 1
  | .slice elems spare => uptoBulkAll elems + uptoBulkAll spare + 1
  | .agg parts => uptoBulkAll parts + 1
  | .iface _ d => uptoBulk d + 1
  | .map entries => uptoBulkEntries entries + 1
  | .held _ => 1
def uptoBulkAll {H : Type} : List (DataW H) → Nat
  | [] => 0
  | d :: r => uptoBulk d + uptoBulkAll r
def uptoBulkEntries {H : Type} : List (Lit × DataW H) → Nat
  | [] => 0
  | x :: r => uptoBulkEntry x + uptoBulkEntries r
def uptoBulkEntry {H : Type} : Lit × DataW H → Nat
  | (.string bytes, d) => bytes.length + uptoBulk d + 1
  | (_, d) => uptoBulk d + 1
 end
def uptoSmall : (H : Type) → List (DataW H) → Bool := fun _ ds => decide (uptoBulkAll ds ≤ 1048576)
def OpenSpec.upto (s : _root_.Go.ChangeSpec) : _root_.Go.OpenSpec := { _root_.Go.OpenSpec.ofChange s with cond := some uptoSmall }

/-- 'hourglasslaw14.SkewTells', WHERE WHAT IT READS IS OF BULK AT MOST 1048576: true; the input reads as it did. -/
def skewTellsUptoRow : OpenClaim := { program := "ythhmgodnmgmjdaa", sum := "47b0e06050ac18667cfe2b89115b992c0747c89ba1435550413a54509c1c9673", func := "hourglass/hourglasslaw14.SkewTells", spec := "skewTells", unfollowed := true, recurses := true, apart := false, narrowed := true }
def SkewTellsUptoSaid : Prop := skewTellsUptoRow.holds Try.pinned (OpenSpec.upto skewTellsSpec)

/-- 'hourglasslaw14.SkewWithin', WHERE WHAT IT READS IS OF BULK AT MOST 1048576: true; the input reads as it did. -/
def skewWithinUptoRow : OpenClaim := { program := "ythhmgodnmgmjdaa", sum := "47b0e06050ac18667cfe2b89115b992c0747c89ba1435550413a54509c1c9673", func := "hourglass/hourglasslaw14.SkewWithin", spec := "skewWithin", unfollowed := true, recurses := true, apart := false, narrowed := true }
def SkewWithinUptoSaid : Prop := skewWithinUptoRow.holds Try.pinned (OpenSpec.upto skewWithinSpec)

/-- 'hourglasslaw14.SkewForgets', WHERE WHAT IT READS IS OF BULK AT MOST 1048576: true; the input reads as it did. -/
def skewForgetsUptoRow : OpenClaim := { program := "ythhmgodnmgmjdaa", sum := "47b0e06050ac18667cfe2b89115b992c0747c89ba1435550413a54509c1c9673", func := "hourglass/hourglasslaw14.SkewForgets", spec := "skewForgets", unfollowed := true, recurses := true, apart := false, narrowed := true }
def SkewForgetsUptoSaid : Prop := skewForgetsUptoRow.holds Try.pinned (OpenSpec.upto skewForgetsSpec)

/-- 'hourglasslaw14.SkewTurned', WHERE WHAT IT READS IS OF BULK AT MOST 1048576: true; the input reads as it did. -/
def skewTurnedUptoRow : OpenClaim := { program := "ythhmgodnmgmjdaa", sum := "47b0e06050ac18667cfe2b89115b992c0747c89ba1435550413a54509c1c9673", func := "hourglass/hourglasslaw14.SkewTurned", spec := "skewTurned", unfollowed := true, recurses := true, apart := false, narrowed := true }
def SkewTurnedUptoSaid : Prop := skewTurnedUptoRow.holds Try.pinned (OpenSpec.upto skewTurnedSpec)

/-- 'hourglasslaw14.SkewMoved', WHERE WHAT IT READS IS OF BULK AT MOST 1048576: true; the input reads as it did. -/
def skewMovedUptoRow : OpenClaim := { program := "ythhmgodnmgmjdaa", sum := "47b0e06050ac18667cfe2b89115b992c0747c89ba1435550413a54509c1c9673", func := "hourglass/hourglasslaw14.SkewMoved", spec := "skewMoved", unfollowed := true, recurses := true, apart := false, narrowed := true }
def SkewMovedUptoSaid : Prop := skewMovedUptoRow.holds Try.pinned (OpenSpec.upto skewMovedSpec)

/-- 'hourglasslaw14.SkewOrder', WHERE WHAT IT READS IS OF BULK AT MOST 1048576: true; the input reads as it did. -/
def skewOrderUptoRow : OpenClaim := { program := "ythhmgodnmgmjdaa", sum := "47b0e06050ac18667cfe2b89115b992c0747c89ba1435550413a54509c1c9673", func := "hourglass/hourglasslaw14.SkewOrder", spec := "skewOrder", unfollowed := true, recurses := true, apart := false, narrowed := true }
def SkewOrderUptoSaid : Prop := skewOrderUptoRow.holds Try.pinned (OpenSpec.upto skewOrderSpec)

/-- 'hourglasslaw14.SkewFar', WHERE WHAT IT READS IS OF BULK AT MOST 1048576: true; the input reads as it did. -/
def skewFarUptoRow : OpenClaim := { program := "ythhmgodnmgmjdaa", sum := "47b0e06050ac18667cfe2b89115b992c0747c89ba1435550413a54509c1c9673", func := "hourglass/hourglasslaw14.SkewFar", spec := "skewFar", unfollowed := true, recurses := true, apart := false, narrowed := true }
def SkewFarUptoSaid : Prop := skewFarUptoRow.holds Try.pinned (OpenSpec.upto skewFarSpec)

/-- 'hourglasslaw14.SkewGrows', WHERE WHAT IT READS IS OF BULK AT MOST 1048576: true; the input reads as it did. -/
def skewGrowsUptoRow : OpenClaim := { program := "ythhmgodnmgmjdaa", sum := "47b0e06050ac18667cfe2b89115b992c0747c89ba1435550413a54509c1c9673", func := "hourglass/hourglasslaw14.SkewGrows", spec := "skewGrows", unfollowed := true, recurses := true, apart := false, narrowed := true }
def SkewGrowsUptoSaid : Prop := skewGrowsUptoRow.holds Try.pinned (OpenSpec.upto skewGrowsSpec)

/-- 'hourglasslaw14.SkewSame', WHERE WHAT IT READS IS OF BULK AT MOST 1048576: true; the input reads as it did. -/
def skewSameUptoRow : OpenClaim := { program := "ythhmgodnmgmjdaa", sum := "47b0e06050ac18667cfe2b89115b992c0747c89ba1435550413a54509c1c9673", func := "hourglass/hourglasslaw14.SkewSame", spec := "skewSame", unfollowed := true, recurses := true, apart := false, narrowed := true }
def SkewSameUptoSaid : Prop := skewSameUptoRow.holds Try.pinned (OpenSpec.upto skewSameSpec)

end Rows
end Go.Proofs.Ythhmgodnmgmjdaa
