/-
  No cell of these rows narrows 'for every input' (looked for: loops, veiled, ifaces, maps, wideKeys, modest, calm, conditions, laid).
  DERIVED. THE GIVEN ROWS OF THIS SEAT. 6 by the template 'for every input the law returns true; each argument reads behind the call as it read before'; 0 by the template 'total and deterministic' (their statements: YtkbdpidcdmhhgaaTotals.lean).
  GIVEN WITH THE SEED: the statements are not yours to turn. If you find one false, say at which input.
  Laid BY PROGRAM, IN A SANDBOX (cutbox-rows.mjs): the forced cells as the released guide's own fill.sh prints them over the translation e28916dbaecf8b43… (all of the seat's roots in one cut). By AI agents, Wed Nov 11 2026. No macro, syntax, notation, axiom, sorry.
-/
import Derived.Test.YtkbdpidcdmhhgaaChecked
import GoSem.Claim
import GoSem.ClaimJoined
import GoSem.ClaimMapViews
import Derived.JoinedTies
import Derived.KernelRfl
namespace Go.Proofs.Ytkbdpidcdmhhgaa
/- THE CELL 'sum', in the pinned program and in every row, IS THE sha256 OF THE DUMP (.gsa) THAT YtkbdpidcdmhhgaaProg.lean LOADS. Nothing in Lean hashes anything: it is a label: what it is worth is what the hold of that sum in a sandbox is worth. -/
noncomputable def Try.pinned : Pinned := { name := "ytkbdpidcdmhhgaa", sum := "e28916dbaecf8b430048425a8d79778ad20180edc5ecbeb275d0965d76ec012a", checked := Try.checked }
namespace Rows
def none {H : Type} : Left H := { results := [], args := [] }

/-- 'hourglasslaw12.HeapTells': WHATEVER THE INPUT: true; the input reads as it did. -/
def heapTellsSpec : ChangeSpec := { name := "heapTells", fn := fun _ => fun
  | [d1, d2] => { results := [.lit (.bool true)], args := [d1, d2] }
  | _ => none }
def heapTellsRow : OpenClaim := { program := "ytkbdpidcdmhhgaa", sum := "e28916dbaecf8b430048425a8d79778ad20180edc5ecbeb275d0965d76ec012a", func := "hourglass/hourglasslaw12.HeapTells", spec := "heapTells", apart := false }
def HeapTellsSaid : Prop := heapTellsRow.holds Try.pinned (OpenSpec.ofChange heapTellsSpec)

/-- ITS FALSE NEIGHBOUR: 'it returns false'. Refute it at one input. -/
def heapTellsWrong : ChangeSpec := { name := "heapTells", fn := fun _ => fun
  | [d1, d2] => { results := [.lit (.bool false)], args := [d1, d2] }
  | _ => none }
def HeapTellsWrongFalsely : Prop := heapTellsRow.holds Try.pinned (OpenSpec.ofChange heapTellsWrong)

/-- 'hourglasslaw12.HeapSorts': WHATEVER THE INPUT: true; the input reads as it did. -/
def heapSortsSpec : ChangeSpec := { name := "heapSorts", fn := fun _ => fun
  | [d] => { results := [.lit (.bool true)], args := [d] }
  | _ => none }
def heapSortsRow : OpenClaim := { program := "ytkbdpidcdmhhgaa", sum := "e28916dbaecf8b430048425a8d79778ad20180edc5ecbeb275d0965d76ec012a", func := "hourglass/hourglasslaw12.HeapSorts", spec := "heapSorts", apart := false }
def HeapSortsSaid : Prop := heapSortsRow.holds Try.pinned (OpenSpec.ofChange heapSortsSpec)

/-- ITS FALSE NEIGHBOUR: 'it returns false'. Refute it at one input. -/
def heapSortsWrong : ChangeSpec := { name := "heapSorts", fn := fun _ => fun
  | [d] => { results := [.lit (.bool false)], args := [d] }
  | _ => none }
def HeapSortsWrongFalsely : Prop := heapSortsRow.holds Try.pinned (OpenSpec.ofChange heapSortsWrong)

/-- 'hourglasslaw12.HeapTimes': WHATEVER THE INPUT: true; the input reads as it did. -/
def heapTimesSpec : ChangeSpec := { name := "heapTimes", fn := fun _ => fun
  | [d] => { results := [.lit (.bool true)], args := [d] }
  | _ => none }
def heapTimesRow : OpenClaim := { program := "ytkbdpidcdmhhgaa", sum := "e28916dbaecf8b430048425a8d79778ad20180edc5ecbeb275d0965d76ec012a", func := "hourglass/hourglasslaw12.HeapTimes", spec := "heapTimes", apart := false }
def HeapTimesSaid : Prop := heapTimesRow.holds Try.pinned (OpenSpec.ofChange heapTimesSpec)

/-- ITS FALSE NEIGHBOUR: 'it returns false'. Refute it at one input. -/
def heapTimesWrong : ChangeSpec := { name := "heapTimes", fn := fun _ => fun
  | [d] => { results := [.lit (.bool false)], args := [d] }
  | _ => none }
def HeapTimesWrongFalsely : Prop := heapTimesRow.holds Try.pinned (OpenSpec.ofChange heapTimesWrong)

/-- 'hourglasslaw12.HeapFull': WHATEVER THE INPUT: true; the input reads as it did. -/
def heapFullSpec : ChangeSpec := { name := "heapFull", fn := fun _ => fun
  | [d1, d2] => { results := [.lit (.bool true)], args := [d1, d2] }
  | _ => none }
def heapFullRow : OpenClaim := { program := "ytkbdpidcdmhhgaa", sum := "e28916dbaecf8b430048425a8d79778ad20180edc5ecbeb275d0965d76ec012a", func := "hourglass/hourglasslaw12.HeapFull", spec := "heapFull", apart := false }
def HeapFullSaid : Prop := heapFullRow.holds Try.pinned (OpenSpec.ofChange heapFullSpec)

/-- ITS FALSE NEIGHBOUR: 'it returns false'. Refute it at one input. -/
def heapFullWrong : ChangeSpec := { name := "heapFull", fn := fun _ => fun
  | [d1, d2] => { results := [.lit (.bool false)], args := [d1, d2] }
  | _ => none }
def HeapFullWrongFalsely : Prop := heapFullRow.holds Try.pinned (OpenSpec.ofChange heapFullWrong)

/-- 'hourglasslaw12.HeapFlows': WHATEVER THE INPUT: true; the input reads as it did. -/
def heapFlowsSpec : ChangeSpec := { name := "heapFlows", fn := fun _ => fun
  | [d] => { results := [.lit (.bool true)], args := [d] }
  | _ => none }
def heapFlowsRow : OpenClaim := { program := "ytkbdpidcdmhhgaa", sum := "e28916dbaecf8b430048425a8d79778ad20180edc5ecbeb275d0965d76ec012a", func := "hourglass/hourglasslaw12.HeapFlows", spec := "heapFlows", apart := false }
def HeapFlowsSaid : Prop := heapFlowsRow.holds Try.pinned (OpenSpec.ofChange heapFlowsSpec)

/-- ITS FALSE NEIGHBOUR: 'it returns false'. Refute it at one input. -/
def heapFlowsWrong : ChangeSpec := { name := "heapFlows", fn := fun _ => fun
  | [d] => { results := [.lit (.bool false)], args := [d] }
  | _ => none }
def HeapFlowsWrongFalsely : Prop := heapFlowsRow.holds Try.pinned (OpenSpec.ofChange heapFlowsWrong)

/-- 'hourglasslaw12.HeapOwn': WHATEVER THE INPUT: true; the input reads as it did. -/
def heapOwnSpec : ChangeSpec := { name := "heapOwn", fn := fun _ => fun
  | [d1, d2] => { results := [.lit (.bool true)], args := [d1, d2] }
  | _ => none }
def heapOwnRow : OpenClaim := { program := "ytkbdpidcdmhhgaa", sum := "e28916dbaecf8b430048425a8d79778ad20180edc5ecbeb275d0965d76ec012a", func := "hourglass/hourglasslaw12.HeapOwn", spec := "heapOwn", apart := false }
def HeapOwnSaid : Prop := heapOwnRow.holds Try.pinned (OpenSpec.ofChange heapOwnSpec)

/-- ITS FALSE NEIGHBOUR: 'it returns false'. Refute it at one input. -/
def heapOwnWrong : ChangeSpec := { name := "heapOwn", fn := fun _ => fun
  | [d1, d2] => { results := [.lit (.bool false)], args := [d1, d2] }
  | _ => none }
def HeapOwnWrongFalsely : Prop := heapOwnRow.holds Try.pinned (OpenSpec.ofChange heapOwnWrong)

/- THE SECOND FORM. 'bulk': how many values and letters a reading holds, each counted each time it is reached (what is shared counts as often as it is met; a slice's spare places count too). A statement '..UptoSaid' is the law's where the arguments, and the package variables that the reading takes, are together of bulk at most 1048576: NARROWER than '..Said'. Prove '..Said' where nothing that the law and all that it calls make is longer than what came in: it says more and counts as full. Else prove '..UptoSaid'. A law counts once. -/
mutual
def uptoBulk {H : Type} : DataW H → Nat
  | .lit (.string bytes) => bytes.length + 1
  | .lit _ => 1
  | .nil => 1
  | .ptr d => uptoBulk d + 1
  | .slice elems spare => uptoBulkAll elems + uptoBulkAll spare + 1
  | .agg parts => uptoBulkAll parts + 1
  | .iface _ d => uptoBulk d + 1
  | .map entries => uptoBulkEntries entries + 1
  | .held _ => 1
def uptoBulkAll {H : Type} : List (DataW H) → Nat
  | [] => 0
  | d :: r => uptoBulk d + uptoBulkAll r
def uptoBulkEntries {H : Type} : List (Lit × DataW H) → Nat
  | [] => 0
  | x :: r => uptoBulkEntry x + uptoBulkEntries r
def uptoBulkEntry {H : Type} : Lit × DataW H → Nat
  | (.string bytes, d) => bytes.length + uptoBulk d + 1
  | (_, d) => uptoBulk d + 1
 end
def uptoSmall : (H : Type) → List (DataW H) → Bool := fun _ ds => decide (uptoBulkAll ds ≤ 1048576)
def OpenSpec.upto (s : _root_.Go.ChangeSpec) : _root_.Go.OpenSpec := { _root_.Go.OpenSpec.ofChange s with cond := some uptoSmall }

/-- 'hourglasslaw12.HeapTells', WHERE WHAT IT READS IS OF BULK AT MOST 1048576: true; the input reads as it did. -/
def heapTellsUptoRow : OpenClaim := { program := "ytkbdpidcdmhhgaa", sum := "e28916dbaecf8b430048425a8d79778ad20180edc5ecbeb275d0965d76ec012a", func := "hourglass/hourglasslaw12.HeapTells", spec := "heapTells", apart := false, narrowed := true }
def HeapTellsUptoSaid : Prop := heapTellsUptoRow.holds Try.pinned (OpenSpec.upto heapTellsSpec)

/-- 'hourglasslaw12.HeapSorts', WHERE WHAT IT READS IS OF BULK AT MOST 1048576: true; the input reads as it did. -/
def heapSortsUptoRow : OpenClaim := { program := "ytkbdpidcdmhhgaa", sum := "e28916dbaecf8b430048425a8d79778ad20180edc5ecbeb275d0965d76ec012a", func := "hourglass/hourglasslaw12.HeapSorts", spec := "heapSorts", apart := false, narrowed := true }
def HeapSortsUptoSaid : Prop := heapSortsUptoRow.holds Try.pinned (OpenSpec.upto heapSortsSpec)

/-- 'hourglasslaw12.HeapTimes', WHERE WHAT IT READS IS OF BULK AT MOST 1048576: true; the input reads as it did. -/
def heapTimesUptoRow : OpenClaim := { program := "ytkbdpidcdmhhgaa", sum := "e28916dbaecf8b430048425a8d79778ad20180edc5ecbeb275d0965d76ec012a", func := "hourglass/hourglasslaw12.HeapTimes", spec := "heapTimes", apart := false, narrowed := true }
def HeapTimesUptoSaid : Prop := heapTimesUptoRow.holds Try.pinned (OpenSpec.upto heapTimesSpec)

/-- 'hourglasslaw12.HeapFull', WHERE WHAT IT READS IS OF BULK AT MOST 1048576: true; the input reads as it did. -/
def heapFullUptoRow : OpenClaim := { program := "ytkbdpidcdmhhgaa", sum := "e28916dbaecf8b430048425a8d79778ad20180edc5ecbeb275d0965d76ec012a", func := "hourglass/hourglasslaw12.HeapFull", spec := "heapFull", apart := false, narrowed := true }
def HeapFullUptoSaid : Prop := heapFullUptoRow.holds Try.pinned (OpenSpec.upto heapFullSpec)

/-- 'hourglasslaw12.HeapFlows', WHERE WHAT IT READS IS OF BULK AT MOST 1048576: true; the input reads as it did. -/
def heapFlowsUptoRow : OpenClaim := { program := "ytkbdpidcdmhhgaa", sum := "e28916dbaecf8b430048425a8d79778ad20180edc5ecbeb275d0965d76ec012a", func := "hourglass/hourglasslaw12.HeapFlows", spec := "heapFlows", apart := false, narrowed := true }
def HeapFlowsUptoSaid : Prop := heapFlowsUptoRow.holds Try.pinned (OpenSpec.upto heapFlowsSpec)

/-- 'hourglasslaw12.HeapOwn', WHERE WHAT IT READS IS OF BULK AT MOST 1048576: true; the input reads as it did. -/
def heapOwnUptoRow : OpenClaim := { program := "ytkbdpidcdmhhgaa", sum := "e28916dbaecf8b430048425a8d79778ad20180edc5ecbeb275d0965d76ec012a", func := "hourglass/hourglasslaw12.HeapOwn", spec := "heapOwn", apart := false, narrowed := true }
def HeapOwnUptoSaid : Prop := heapOwnUptoRow.holds Try.pinned (OpenSpec.upto heapOwnSpec)

end Rows
end Go.Proofs.Ytkbdpidcdmhhgaa
