/-
  NARROWER THAN 'FOR EVERY INPUT', by the rows' own cells (each row's printed sentence says how): NodeTells: laid · NodeRefuses: laid · NodeCounts: laid · NodeTimes: laid · NodeEpochs: laid · NodeWindows: laid · NodeClients: laid · NodeOwn: laid.
  DERIVED. THE GIVEN ROWS OF THIS SEAT. 8 by the template 'for every input the law returns true; each argument reads behind the call as it read before'; 0 by the template 'total and deterministic' (their statements: YtmflbekabkainaaGreatDoorTotals.lean).
  GIVEN WITH THE SEED: the statements are not yours to turn. If you find one false, say at which input.
  Laid BY PROGRAM, IN A SANDBOX (cutbox-rows.mjs): the forced cells as the released guide's own fill.sh prints them over the translation e332eb4051625ae5… (all of the seat's roots in one cut). By AI agents, Wed Nov 11 2026. No macro, syntax, notation, axiom, sorry.
-/
import Derived.Test.YtmflbekabkainaaGreatDoorChecked
import GoSem.Claim
import GoSem.ClaimJoined
import GoSem.ClaimMapViews
import Derived.JoinedTies
import Derived.KernelRfl
namespace Go.Proofs.YtmflbekabkainaaGreatDoor
/- THE CELL 'sum', in the pinned program and in every row, IS THE sha256 OF THE DUMP (.gsa) THAT YtmflbekabkainaaGreatDoorProg.lean LOADS. Nothing in Lean hashes anything: it is a label: what it is worth is what the hold of that sum in a sandbox is worth. -/
noncomputable def Tryz.pinned : Pinned := { name := "ytmflbekabkainaagreatdoor", sum := "e332eb4051625ae56a3e137458e2c131c021ee8d64ca96d23739254fe0edda73", checked := Tryz.checked }
namespace Rows
def none {H : Type} : Left H := { results := [], args := [] }

/- WHAT THE LISTED PACKAGE-LEVEL VARIABLES READ AS WHEN THE CALL BEGINS. Each datum BY PROGRAM (the guide's laid-datum.mjs) off the statement by which the dump's own 'gosem.cut.vars' lays the variable. In a bare row this is a premise. The card (YtmflbekabkainaaGreatDoorCards.lean) ties it to the program's text. -/
def laid_hourglass_sha_first {H : Type} : DataW H := .agg [.lit (.int .u32 1779033703), .lit (.int .u32 3144134277), .lit (.int .u32 1013904242), .lit (.int .u32 2773480762), .lit (.int .u32 1359893119), .lit (.int .u32 2600822924), .lit (.int .u32 528734635), .lit (.int .u32 1541459225)]
def laid_hourglass_sha_steady {H : Type} : DataW H := .agg [.lit (.int .u32 1116352408), .lit (.int .u32 1899447441), .lit (.int .u32 3049323471), .lit (.int .u32 3921009573), .lit (.int .u32 961987163), .lit (.int .u32 1508970993), .lit (.int .u32 2453635748), .lit (.int .u32 2870763221), .lit (.int .u32 3624381080), .lit (.int .u32 310598401), .lit (.int .u32 607225278), .lit (.int .u32 1426881987), .lit (.int .u32 1925078388), .lit (.int .u32 2162078206), .lit (.int .u32 2614888103), .lit (.int .u32 3248222580), .lit (.int .u32 3835390401), .lit (.int .u32 4022224774), .lit (.int .u32 264347078), .lit (.int .u32 604807628), .lit (.int .u32 770255983), .lit (.int .u32 1249150122), .lit (.int .u32 1555081692), .lit (.int .u32 1996064986), .lit (.int .u32 2554220882), .lit (.int .u32 2821834349), .lit (.int .u32 2952996808), .lit (.int .u32 3210313671), .lit (.int .u32 3336571891), .lit (.int .u32 3584528711), .lit (.int .u32 113926993), .lit (.int .u32 338241895), .lit (.int .u32 666307205), .lit (.int .u32 773529912), .lit (.int .u32 1294757372), .lit (.int .u32 1396182291), .lit (.int .u32 1695183700), .lit (.int .u32 1986661051), .lit (.int .u32 2177026350), .lit (.int .u32 2456956037), .lit (.int .u32 2730485921), .lit (.int .u32 2820302411), .lit (.int .u32 3259730800), .lit (.int .u32 3345764771), .lit (.int .u32 3516065817), .lit (.int .u32 3600352804), .lit (.int .u32 4094571909), .lit (.int .u32 275423344), .lit (.int .u32 430227734), .lit (.int .u32 506948616), .lit (.int .u32 659060556), .lit (.int .u32 883997877), .lit (.int .u32 958139571), .lit (.int .u32 1322822218), .lit (.int .u32 1537002063), .lit (.int .u32 1747873779), .lit (.int .u32 1955562222), .lit (.int .u32 2024104815), .lit (.int .u32 2227730452), .lit (.int .u32 2361852424), .lit (.int .u32 2428436474), .lit (.int .u32 2756734187), .lit (.int .u32 3204031479), .lit (.int .u32 3329325298)]
def laid_hourglass_chacha_begins {H : Type} : DataW H := .agg [.lit (.int .u32 1634760805), .lit (.int .u32 857760878), .lit (.int .u32 2036477234), .lit (.int .u32 1797285236)]
def laid_hourglass_chacha_quarters {H : Type} : DataW H := .agg [.agg [.lit (.int .i64 0), .lit (.int .i64 4), .lit (.int .i64 8), .lit (.int .i64 12)], .agg [.lit (.int .i64 1), .lit (.int .i64 5), .lit (.int .i64 9), .lit (.int .i64 13)], .agg [.lit (.int .i64 2), .lit (.int .i64 6), .lit (.int .i64 10), .lit (.int .i64 14)], .agg [.lit (.int .i64 3), .lit (.int .i64 7), .lit (.int .i64 11), .lit (.int .i64 15)], .agg [.lit (.int .i64 0), .lit (.int .i64 5), .lit (.int .i64 10), .lit (.int .i64 15)], .agg [.lit (.int .i64 1), .lit (.int .i64 6), .lit (.int .i64 11), .lit (.int .i64 12)], .agg [.lit (.int .i64 2), .lit (.int .i64 7), .lit (.int .i64 8), .lit (.int .i64 13)], .agg [.lit (.int .i64 3), .lit (.int .i64 4), .lit (.int .i64 9), .lit (.int .i64 14)]]
def laid_hourglass_chacha_turns {H : Type} : DataW H := .agg [.agg [.lit (.int .i64 16), .lit (.int .i64 12)], .agg [.lit (.int .i64 8), .lit (.int .i64 7)]]

/-- 'hourglasslaw17.NodeTells': WHATEVER THE INPUT: true; the input reads as it did. -/
def nodeTellsSpec : ChangeSpec := { name := "nodeTells", fn := fun _ => fun
  | [d1, d2, d3, d4] => { results := [.lit (.bool true)], args := [d1, d2, d3, d4] }
  | _ => none }
def nodeTellsRow : OpenClaim := { program := "ytmflbekabkainaagreatdoor", sum := "e332eb4051625ae56a3e137458e2c131c021ee8d64ca96d23739254fe0edda73", func := "hourglass/hourglasslaw17.NodeTells", spec := "nodeTells", unfollowed := true, recurses := true, named := ["hourglass/sha.first", "hourglass/sha.steady", "hourglass/chacha.begins", "hourglass/chacha.quarters", "hourglass/chacha.turns"], plainKeys := false, apart := false, laid := [("hourglass/sha.first", laid_hourglass_sha_first), ("hourglass/sha.steady", laid_hourglass_sha_steady), ("hourglass/chacha.begins", laid_hourglass_chacha_begins), ("hourglass/chacha.quarters", laid_hourglass_chacha_quarters), ("hourglass/chacha.turns", laid_hourglass_chacha_turns)] }
def NodeTellsSaid : Prop := nodeTellsRow.holds Tryz.pinned (OpenSpec.ofChange nodeTellsSpec)

/-- ITS FALSE NEIGHBOUR: 'it returns false'. Refute it at one input. -/
def nodeTellsWrong : ChangeSpec := { name := "nodeTells", fn := fun _ => fun
  | [d1, d2, d3, d4] => { results := [.lit (.bool false)], args := [d1, d2, d3, d4] }
  | _ => none }
def NodeTellsWrongFalsely : Prop := nodeTellsRow.holds Tryz.pinned (OpenSpec.ofChange nodeTellsWrong)

/-- 'hourglasslaw17.NodeRefuses': WHATEVER THE INPUT: true; the input reads as it did. -/
def nodeRefusesSpec : ChangeSpec := { name := "nodeRefuses", fn := fun _ => fun
  | [d1, d2, d3, d4] => { results := [.lit (.bool true)], args := [d1, d2, d3, d4] }
  | _ => none }
def nodeRefusesRow : OpenClaim := { program := "ytmflbekabkainaagreatdoor", sum := "e332eb4051625ae56a3e137458e2c131c021ee8d64ca96d23739254fe0edda73", func := "hourglass/hourglasslaw17.NodeRefuses", spec := "nodeRefuses", unfollowed := true, recurses := true, named := ["hourglass/sha.first", "hourglass/sha.steady", "hourglass/chacha.begins", "hourglass/chacha.quarters", "hourglass/chacha.turns"], plainKeys := false, apart := false, laid := [("hourglass/sha.first", laid_hourglass_sha_first), ("hourglass/sha.steady", laid_hourglass_sha_steady), ("hourglass/chacha.begins", laid_hourglass_chacha_begins), ("hourglass/chacha.quarters", laid_hourglass_chacha_quarters), ("hourglass/chacha.turns", laid_hourglass_chacha_turns)] }
def NodeRefusesSaid : Prop := nodeRefusesRow.holds Tryz.pinned (OpenSpec.ofChange nodeRefusesSpec)

/-- ITS FALSE NEIGHBOUR: 'it returns false'. Refute it at one input. -/
def nodeRefusesWrong : ChangeSpec := { name := "nodeRefuses", fn := fun _ => fun
  | [d1, d2, d3, d4] => { results := [.lit (.bool false)], args := [d1, d2, d3, d4] }
  | _ => none }
def NodeRefusesWrongFalsely : Prop := nodeRefusesRow.holds Tryz.pinned (OpenSpec.ofChange nodeRefusesWrong)

/-- 'hourglasslaw17.NodeCounts': WHATEVER THE INPUT: true; the input reads as it did. -/
def nodeCountsSpec : ChangeSpec := { name := "nodeCounts", fn := fun _ => fun
  | [d1, d2, d3, d4] => { results := [.lit (.bool true)], args := [d1, d2, d3, d4] }
  | _ => none }
def nodeCountsRow : OpenClaim := { program := "ytmflbekabkainaagreatdoor", sum := "e332eb4051625ae56a3e137458e2c131c021ee8d64ca96d23739254fe0edda73", func := "hourglass/hourglasslaw17.NodeCounts", spec := "nodeCounts", unfollowed := true, recurses := true, named := ["hourglass/sha.first", "hourglass/sha.steady", "hourglass/chacha.begins", "hourglass/chacha.quarters", "hourglass/chacha.turns"], plainKeys := false, apart := false, laid := [("hourglass/sha.first", laid_hourglass_sha_first), ("hourglass/sha.steady", laid_hourglass_sha_steady), ("hourglass/chacha.begins", laid_hourglass_chacha_begins), ("hourglass/chacha.quarters", laid_hourglass_chacha_quarters), ("hourglass/chacha.turns", laid_hourglass_chacha_turns)] }
def NodeCountsSaid : Prop := nodeCountsRow.holds Tryz.pinned (OpenSpec.ofChange nodeCountsSpec)

/-- ITS FALSE NEIGHBOUR: 'it returns false'. Refute it at one input. -/
def nodeCountsWrong : ChangeSpec := { name := "nodeCounts", fn := fun _ => fun
  | [d1, d2, d3, d4] => { results := [.lit (.bool false)], args := [d1, d2, d3, d4] }
  | _ => none }
def NodeCountsWrongFalsely : Prop := nodeCountsRow.holds Tryz.pinned (OpenSpec.ofChange nodeCountsWrong)

/-- 'hourglasslaw17.NodeTimes': WHATEVER THE INPUT: true; the input reads as it did. -/
def nodeTimesSpec : ChangeSpec := { name := "nodeTimes", fn := fun _ => fun
  | [d1, d2, d3, d4, d5] => { results := [.lit (.bool true)], args := [d1, d2, d3, d4, d5] }
  | _ => none }
def nodeTimesRow : OpenClaim := { program := "ytmflbekabkainaagreatdoor", sum := "e332eb4051625ae56a3e137458e2c131c021ee8d64ca96d23739254fe0edda73", func := "hourglass/hourglasslaw17.NodeTimes", spec := "nodeTimes", unfollowed := true, recurses := true, named := ["hourglass/sha.first", "hourglass/sha.steady", "hourglass/chacha.begins", "hourglass/chacha.quarters", "hourglass/chacha.turns"], plainKeys := false, apart := false, laid := [("hourglass/sha.first", laid_hourglass_sha_first), ("hourglass/sha.steady", laid_hourglass_sha_steady), ("hourglass/chacha.begins", laid_hourglass_chacha_begins), ("hourglass/chacha.quarters", laid_hourglass_chacha_quarters), ("hourglass/chacha.turns", laid_hourglass_chacha_turns)] }
def NodeTimesSaid : Prop := nodeTimesRow.holds Tryz.pinned (OpenSpec.ofChange nodeTimesSpec)

/-- ITS FALSE NEIGHBOUR: 'it returns false'. Refute it at one input. -/
def nodeTimesWrong : ChangeSpec := { name := "nodeTimes", fn := fun _ => fun
  | [d1, d2, d3, d4, d5] => { results := [.lit (.bool false)], args := [d1, d2, d3, d4, d5] }
  | _ => none }
def NodeTimesWrongFalsely : Prop := nodeTimesRow.holds Tryz.pinned (OpenSpec.ofChange nodeTimesWrong)

/-- 'hourglasslaw17.NodeEpochs': WHATEVER THE INPUT: true; the input reads as it did. -/
def nodeEpochsSpec : ChangeSpec := { name := "nodeEpochs", fn := fun _ => fun
  | [d1, d2] => { results := [.lit (.bool true)], args := [d1, d2] }
  | _ => none }
def nodeEpochsRow : OpenClaim := { program := "ytmflbekabkainaagreatdoor", sum := "e332eb4051625ae56a3e137458e2c131c021ee8d64ca96d23739254fe0edda73", func := "hourglass/hourglasslaw17.NodeEpochs", spec := "nodeEpochs", unfollowed := true, recurses := true, named := ["hourglass/sha.first", "hourglass/sha.steady", "hourglass/chacha.begins", "hourglass/chacha.quarters", "hourglass/chacha.turns"], plainKeys := false, apart := false, laid := [("hourglass/sha.first", laid_hourglass_sha_first), ("hourglass/sha.steady", laid_hourglass_sha_steady), ("hourglass/chacha.begins", laid_hourglass_chacha_begins), ("hourglass/chacha.quarters", laid_hourglass_chacha_quarters), ("hourglass/chacha.turns", laid_hourglass_chacha_turns)] }
def NodeEpochsSaid : Prop := nodeEpochsRow.holds Tryz.pinned (OpenSpec.ofChange nodeEpochsSpec)

/-- ITS FALSE NEIGHBOUR: 'it returns false'. Refute it at one input. -/
def nodeEpochsWrong : ChangeSpec := { name := "nodeEpochs", fn := fun _ => fun
  | [d1, d2] => { results := [.lit (.bool false)], args := [d1, d2] }
  | _ => none }
def NodeEpochsWrongFalsely : Prop := nodeEpochsRow.holds Tryz.pinned (OpenSpec.ofChange nodeEpochsWrong)

/-- 'hourglasslaw17.NodeWindows': WHATEVER THE INPUT: true; the input reads as it did. -/
def nodeWindowsSpec : ChangeSpec := { name := "nodeWindows", fn := fun _ => fun
  | [d1, d2, d3] => { results := [.lit (.bool true)], args := [d1, d2, d3] }
  | _ => none }
def nodeWindowsRow : OpenClaim := { program := "ytmflbekabkainaagreatdoor", sum := "e332eb4051625ae56a3e137458e2c131c021ee8d64ca96d23739254fe0edda73", func := "hourglass/hourglasslaw17.NodeWindows", spec := "nodeWindows", unfollowed := true, recurses := true, named := ["hourglass/sha.first", "hourglass/sha.steady", "hourglass/chacha.begins", "hourglass/chacha.quarters", "hourglass/chacha.turns"], plainKeys := false, apart := false, laid := [("hourglass/sha.first", laid_hourglass_sha_first), ("hourglass/sha.steady", laid_hourglass_sha_steady), ("hourglass/chacha.begins", laid_hourglass_chacha_begins), ("hourglass/chacha.quarters", laid_hourglass_chacha_quarters), ("hourglass/chacha.turns", laid_hourglass_chacha_turns)] }
def NodeWindowsSaid : Prop := nodeWindowsRow.holds Tryz.pinned (OpenSpec.ofChange nodeWindowsSpec)

/-- ITS FALSE NEIGHBOUR: 'it returns false'. Refute it at one input. -/
def nodeWindowsWrong : ChangeSpec := { name := "nodeWindows", fn := fun _ => fun
  | [d1, d2, d3] => { results := [.lit (.bool false)], args := [d1, d2, d3] }
  | _ => none }
def NodeWindowsWrongFalsely : Prop := nodeWindowsRow.holds Tryz.pinned (OpenSpec.ofChange nodeWindowsWrong)

/-- 'hourglasslaw17.NodeClients': WHATEVER THE INPUT: true; the input reads as it did. -/
def nodeClientsSpec : ChangeSpec := { name := "nodeClients", fn := fun _ => fun
  | [d] => { results := [.lit (.bool true)], args := [d] }
  | _ => none }
def nodeClientsRow : OpenClaim := { program := "ytmflbekabkainaagreatdoor", sum := "e332eb4051625ae56a3e137458e2c131c021ee8d64ca96d23739254fe0edda73", func := "hourglass/hourglasslaw17.NodeClients", spec := "nodeClients", unfollowed := true, recurses := true, named := ["hourglass/sha.first", "hourglass/sha.steady", "hourglass/chacha.begins", "hourglass/chacha.quarters", "hourglass/chacha.turns"], plainKeys := false, apart := false, laid := [("hourglass/sha.first", laid_hourglass_sha_first), ("hourglass/sha.steady", laid_hourglass_sha_steady), ("hourglass/chacha.begins", laid_hourglass_chacha_begins), ("hourglass/chacha.quarters", laid_hourglass_chacha_quarters), ("hourglass/chacha.turns", laid_hourglass_chacha_turns)] }
def NodeClientsSaid : Prop := nodeClientsRow.holds Tryz.pinned (OpenSpec.ofChange nodeClientsSpec)

/-- ITS FALSE NEIGHBOUR: 'it returns false'. Refute it at one input. -/
def nodeClientsWrong : ChangeSpec := { name := "nodeClients", fn := fun _ => fun
  | [d] => { results := [.lit (.bool false)], args := [d] }
  | _ => none }
def NodeClientsWrongFalsely : Prop := nodeClientsRow.holds Tryz.pinned (OpenSpec.ofChange nodeClientsWrong)

/-- 'hourglasslaw17.NodeOwn': WHATEVER THE INPUT: true; the input reads as it did. -/
def nodeOwnSpec : ChangeSpec := { name := "nodeOwn", fn := fun _ => fun
  | [d1, d2] => { results := [.lit (.bool true)], args := [d1, d2] }
  | _ => none }
def nodeOwnRow : OpenClaim := { program := "ytmflbekabkainaagreatdoor", sum := "e332eb4051625ae56a3e137458e2c131c021ee8d64ca96d23739254fe0edda73", func := "hourglass/hourglasslaw17.NodeOwn", spec := "nodeOwn", unfollowed := true, recurses := true, named := ["hourglass/sha.first", "hourglass/sha.steady", "hourglass/chacha.begins", "hourglass/chacha.quarters", "hourglass/chacha.turns"], plainKeys := false, apart := false, laid := [("hourglass/sha.first", laid_hourglass_sha_first), ("hourglass/sha.steady", laid_hourglass_sha_steady), ("hourglass/chacha.begins", laid_hourglass_chacha_begins), ("hourglass/chacha.quarters", laid_hourglass_chacha_quarters), ("hourglass/chacha.turns", laid_hourglass_chacha_turns)] }
def NodeOwnSaid : Prop := nodeOwnRow.holds Tryz.pinned (OpenSpec.ofChange nodeOwnSpec)

/-- ITS FALSE NEIGHBOUR: 'it returns false'. Refute it at one input. -/
def nodeOwnWrong : ChangeSpec := { name := "nodeOwn", fn := fun _ => fun
  | [d1, d2] => { results := [.lit (.bool false)], args := [d1, d2] }
  | _ => none }
def NodeOwnWrongFalsely : Prop := nodeOwnRow.holds Tryz.pinned (OpenSpec.ofChange nodeOwnWrong)

/- THE SECOND FORM. 'bulk': how many values and letters a reading holds, each counted each time it is reached (what is shared counts as often as it is met; a slice's spare places count too). A statement '..UptoSaid' is the law's where the arguments, and the package variables that the reading takes, are together of bulk at most 1048576: NARROWER than '..Said'. Prove '..Said' where nothing that the law and all that it calls make is longer than what came in: it says more and counts as full. Else prove '..UptoSaid'. A law counts once. -/
mutual
def uptoBulk {H : Type} : DataW H → Nat
  | .lit (.string bytes) => bytes.length + 1
  | .lit _ => 1
  | .nil => 1
  | .ptr d => uptoBulk d + 1
  | .slice elems spare => uptoBulkAll elems + uptoBulkAll spare + 1
  | .agg parts => uptoBulkAll parts + 1
  | .iface _ d => uptoBulk d + 1
  | .map entries => uptoBulkEntries entries + 1
  | .held _ => 1
def uptoBulkAll {H : Type} : List (DataW H) → Nat
  | [] => 0
  | d :: r => uptoBulk d + uptoBulkAll r
def uptoBulkEntries {H : Type} : List (Lit × DataW H) → Nat
  | [] => 0
  | x :: r => uptoBulkEntry x + uptoBulkEntries r
def uptoBulkEntry {H : Type} : Lit × DataW H → Nat
  | (.string bytes, d) => bytes.length + uptoBulk d + 1
  | (_, d) => uptoBulk d + 1
 end
def uptoSmall : (H : Type) → List (DataW H) → Bool := fun _ ds => decide (uptoBulkAll ds ≤ 1048576)
def OpenSpec.upto (s : _root_.Go.ChangeSpec) : _root_.Go.OpenSpec := { _root_.Go.OpenSpec.ofChange s with cond := some uptoSmall }

/-- 'hourglasslaw17.NodeTells', WHERE WHAT IT READS IS OF BULK AT MOST 1048576: true; the input reads as it did. -/
def nodeTellsUptoRow : OpenClaim := { program := "ytmflbekabkainaagreatdoor", sum := "e332eb4051625ae56a3e137458e2c131c021ee8d64ca96d23739254fe0edda73", func := "hourglass/hourglasslaw17.NodeTells", spec := "nodeTells", unfollowed := true, recurses := true, named := ["hourglass/sha.first", "hourglass/sha.steady", "hourglass/chacha.begins", "hourglass/chacha.quarters", "hourglass/chacha.turns"], plainKeys := false, apart := false, laid := [("hourglass/sha.first", laid_hourglass_sha_first), ("hourglass/sha.steady", laid_hourglass_sha_steady), ("hourglass/chacha.begins", laid_hourglass_chacha_begins), ("hourglass/chacha.quarters", laid_hourglass_chacha_quarters), ("hourglass/chacha.turns", laid_hourglass_chacha_turns)], narrowed := true }
def NodeTellsUptoSaid : Prop := nodeTellsUptoRow.holds Tryz.pinned (OpenSpec.upto nodeTellsSpec)

/-- 'hourglasslaw17.NodeRefuses', WHERE WHAT IT READS IS OF BULK AT MOST 1048576: true; the input reads as it did. -/
def nodeRefusesUptoRow : OpenClaim := { program := "ytmflbekabkainaagreatdoor", sum := "e332eb4051625ae56a3e137458e2c131c021ee8d64ca96d23739254fe0edda73", func := "hourglass/hourglasslaw17.NodeRefuses", spec := "nodeRefuses", unfollowed := true, recurses := true, named := ["hourglass/sha.first", "hourglass/sha.steady", "hourglass/chacha.begins", "hourglass/chacha.quarters", "hourglass/chacha.turns"], plainKeys := false, apart := false, laid := [("hourglass/sha.first", laid_hourglass_sha_first), ("hourglass/sha.steady", laid_hourglass_sha_steady), ("hourglass/chacha.begins", laid_hourglass_chacha_begins), ("hourglass/chacha.quarters", laid_hourglass_chacha_quarters), ("hourglass/chacha.turns", laid_hourglass_chacha_turns)], narrowed := true }
def NodeRefusesUptoSaid : Prop := nodeRefusesUptoRow.holds Tryz.pinned (OpenSpec.upto nodeRefusesSpec)

/-- 'hourglasslaw17.NodeCounts', WHERE WHAT IT READS IS OF BULK AT MOST 1048576: true; the input reads as it did. -/
def nodeCountsUptoRow : OpenClaim := { program := "ytmflbekabkainaagreatdoor", sum := "e332eb4051625ae56a3e137458e2c131c021ee8d64ca96d23739254fe0edda73", func := "hourglass/hourglasslaw17.NodeCounts", spec := "nodeCounts", unfollowed := true, recurses := true, named := ["hourglass/sha.first", "hourglass/sha.steady", "hourglass/chacha.begins", "hourglass/chacha.quarters", "hourglass/chacha.turns"], plainKeys := false, apart := false, laid := [("hourglass/sha.first", laid_hourglass_sha_first), ("hourglass/sha.steady", laid_hourglass_sha_steady), ("hourglass/chacha.begins", laid_hourglass_chacha_begins), ("hourglass/chacha.quarters", laid_hourglass_chacha_quarters), ("hourglass/chacha.turns", laid_hourglass_chacha_turns)], narrowed := true }
def NodeCountsUptoSaid : Prop := nodeCountsUptoRow.holds Tryz.pinned (OpenSpec.upto nodeCountsSpec)

/-- 'hourglasslaw17.NodeTimes', WHERE WHAT IT READS IS OF BULK AT MOST 1048576: true; the input reads as it did. -/
def nodeTimesUptoRow : OpenClaim := { program := "ytmflbekabkainaagreatdoor", sum := "e332eb4051625ae56a3e137458e2c131c021ee8d64ca96d23739254fe0edda73", func := "hourglass/hourglasslaw17.NodeTimes", spec := "nodeTimes", unfollowed := true, recurses := true, named := ["hourglass/sha.first", "hourglass/sha.steady", "hourglass/chacha.begins", "hourglass/chacha.quarters", "hourglass/chacha.turns"], plainKeys := false, apart := false, laid := [("hourglass/sha.first", laid_hourglass_sha_first), ("hourglass/sha.steady", laid_hourglass_sha_steady), ("hourglass/chacha.begins", laid_hourglass_chacha_begins), ("hourglass/chacha.quarters", laid_hourglass_chacha_quarters), ("hourglass/chacha.turns", laid_hourglass_chacha_turns)], narrowed := true }
def NodeTimesUptoSaid : Prop := nodeTimesUptoRow.holds Tryz.pinned (OpenSpec.upto nodeTimesSpec)

/-- 'hourglasslaw17.NodeEpochs', WHERE WHAT IT READS IS OF BULK AT MOST 1048576: true; the input reads as it did. -/
def nodeEpochsUptoRow : OpenClaim := { program := "ytmflbekabkainaagreatdoor", sum := "e332eb4051625ae56a3e137458e2c131c021ee8d64ca96d23739254fe0edda73", func := "hourglass/hourglasslaw17.NodeEpochs", spec := "nodeEpochs", unfollowed := true, recurses := true, named := ["hourglass/sha.first", "hourglass/sha.steady", "hourglass/chacha.begins", "hourglass/chacha.quarters", "hourglass/chacha.turns"], plainKeys := false, apart := false, laid := [("hourglass/sha.first", laid_hourglass_sha_first), ("hourglass/sha.steady", laid_hourglass_sha_steady), ("hourglass/chacha.begins", laid_hourglass_chacha_begins), ("hourglass/chacha.quarters", laid_hourglass_chacha_quarters), ("hourglass/chacha.turns", laid_hourglass_chacha_turns)], narrowed := true }
def NodeEpochsUptoSaid : Prop := nodeEpochsUptoRow.holds Tryz.pinned (OpenSpec.upto nodeEpochsSpec)

/-- 'hourglasslaw17.NodeWindows', WHERE WHAT IT READS IS OF BULK AT MOST 1048576: true; the input reads as it did. -/
def nodeWindowsUptoRow : OpenClaim := { program := "ytmflbekabkainaagreatdoor", sum := "e332eb4051625ae56a3e137458e2c131c021ee8d64ca96d23739254fe0edda73", func := "hourglass/hourglasslaw17.NodeWindows", spec := "nodeWindows", unfollowed := true, recurses := true, named := ["hourglass/sha.first", "hourglass/sha.steady", "hourglass/chacha.begins", "hourglass/chacha.quarters", "hourglass/chacha.turns"], plainKeys := false, apart := false, laid := [("hourglass/sha.first", laid_hourglass_sha_first), ("hourglass/sha.steady", laid_hourglass_sha_steady), ("hourglass/chacha.begins", laid_hourglass_chacha_begins), ("hourglass/chacha.quarters", laid_hourglass_chacha_quarters), ("hourglass/chacha.turns", laid_hourglass_chacha_turns)], narrowed := true }
def NodeWindowsUptoSaid : Prop := nodeWindowsUptoRow.holds Tryz.pinned (OpenSpec.upto nodeWindowsSpec)

/-- 'hourglasslaw17.NodeClients', WHERE WHAT IT READS IS OF BULK AT MOST 1048576: true; the input reads as it did. -/
def nodeClientsUptoRow : OpenClaim := { program := "ytmflbekabkainaagreatdoor", sum := "e332eb4051625ae56a3e137458e2c131c021ee8d64ca96d23739254fe0edda73", func := "hourglass/hourglasslaw17.NodeClients", spec := "nodeClients", unfollowed := true, recurses := true, named := ["hourglass/sha.first", "hourglass/sha.steady", "hourglass/chacha.begins", "hourglass/chacha.quarters", "hourglass/chacha.turns"], plainKeys := false, apart := false, laid := [("hourglass/sha.first", laid_hourglass_sha_first), ("hourglass/sha.steady", laid_hourglass_sha_steady), ("hourglass/chacha.begins", laid_hourglass_chacha_begins), ("hourglass/chacha.quarters", laid_hourglass_chacha_quarters), ("hourglass/chacha.turns", laid_hourglass_chacha_turns)], narrowed := true }
def NodeClientsUptoSaid : Prop := nodeClientsUptoRow.holds Tryz.pinned (OpenSpec.upto nodeClientsSpec)

/-- 'hourglasslaw17.NodeOwn', WHERE WHAT IT READS IS OF BULK AT MOST 1048576: true; the input reads as it did. -/
def nodeOwnUptoRow : OpenClaim := { program := "ytmflbekabkainaagreatdoor", sum := "e332eb4051625ae56a3e137458e2c131c021ee8d64ca96d23739254fe0edda73", func := "hourglass/hourglasslaw17.NodeOwn", spec := "nodeOwn", unfollowed := true, recurses := true, named := ["hourglass/sha.first", "hourglass/sha.steady", "hourglass/chacha.begins", "hourglass/chacha.quarters", "hourglass/chacha.turns"], plainKeys := false, apart := false, laid := [("hourglass/sha.first", laid_hourglass_sha_first), ("hourglass/sha.steady", laid_hourglass_sha_steady), ("hourglass/chacha.begins", laid_hourglass_chacha_begins), ("hourglass/chacha.quarters", laid_hourglass_chacha_quarters), ("hourglass/chacha.turns", laid_hourglass_chacha_turns)], narrowed := true }
def NodeOwnUptoSaid : Prop := nodeOwnUptoRow.holds Tryz.pinned (OpenSpec.upto nodeOwnSpec)

end Rows
end Go.Proofs.YtmflbekabkainaaGreatDoor
