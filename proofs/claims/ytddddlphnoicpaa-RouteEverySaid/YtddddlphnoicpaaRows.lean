/-
  No cell of these rows narrows 'for every input' (looked for: loops, veiled, ifaces, maps, wideKeys, modest, calm, conditions, laid).
  DERIVED. THE GIVEN ROWS OF THIS SEAT. 5 by the template 'for every input the law returns true; each argument reads behind the call as it read before'; 0 by the template 'total and deterministic' (their statements: YtddddlphnoicpaaTotals.lean).
  GIVEN WITH THE SEED: the statements are not yours to turn. If you find one false, say at which input.
  Laid BY PROGRAM, IN A SANDBOX (cutbox-rows.mjs): the forced cells as the released guide's own fill.sh prints them over the translation afa6f7bc82b00dbc… (all of the seat's roots in one cut). By AI agents, Wed Nov 11 2026. No macro, syntax, notation, axiom, sorry.
-/
import Derived.Test.YtddddlphnoicpaaChecked
import GoSem.Claim
import GoSem.ClaimJoined
import GoSem.ClaimMapViews
import Derived.JoinedTies
import Derived.KernelRfl
namespace Go.Proofs.Ytddddlphnoicpaa
/- THE CELL 'sum', in the pinned program and in every row, IS THE sha256 OF THE DUMP (.gsa) THAT YtddddlphnoicpaaProg.lean LOADS. Nothing in Lean hashes anything: it is a label: what it is worth is what the hold of that sum in a sandbox is worth. -/
noncomputable def Try.pinned : Pinned := { name := "ytddddlphnoicpaa", sum := "afa6f7bc82b00dbce254e85ddff080c57d4fb6b77b021143cde975473c6d7e57", checked := Try.checked }
namespace Rows
def none {H : Type} : Left H := { results := [], args := [] }

/-- 'hourglasslaw07.RouteTells': WHATEVER THE INPUT: true; the input reads as it did. -/
def routeTellsSpec : ChangeSpec := { name := "routeTells", fn := fun _ => fun
  | [d1, d2, d3, d4] => { results := [.lit (.bool true)], args := [d1, d2, d3, d4] }
  | _ => none }
def routeTellsRow : OpenClaim := { program := "ytddddlphnoicpaa", sum := "afa6f7bc82b00dbce254e85ddff080c57d4fb6b77b021143cde975473c6d7e57", func := "hourglass/hourglasslaw07.RouteTells", spec := "routeTells", unfollowed := true, recurses := true, apart := false }
def RouteTellsSaid : Prop := routeTellsRow.holds Try.pinned (OpenSpec.ofChange routeTellsSpec)

/-- ITS FALSE NEIGHBOUR: 'it returns false'. Refute it at one input. -/
def routeTellsWrong : ChangeSpec := { name := "routeTells", fn := fun _ => fun
  | [d1, d2, d3, d4] => { results := [.lit (.bool false)], args := [d1, d2, d3, d4] }
  | _ => none }
def RouteTellsWrongFalsely : Prop := routeTellsRow.holds Try.pinned (OpenSpec.ofChange routeTellsWrong)

/-- 'hourglasslaw07.RouteOnce': WHATEVER THE INPUT: true; the input reads as it did. -/
def routeOnceSpec : ChangeSpec := { name := "routeOnce", fn := fun _ => fun
  | [d1, d2, d3, d4] => { results := [.lit (.bool true)], args := [d1, d2, d3, d4] }
  | _ => none }
def routeOnceRow : OpenClaim := { program := "ytddddlphnoicpaa", sum := "afa6f7bc82b00dbce254e85ddff080c57d4fb6b77b021143cde975473c6d7e57", func := "hourglass/hourglasslaw07.RouteOnce", spec := "routeOnce", unfollowed := true, recurses := true, apart := false }
def RouteOnceSaid : Prop := routeOnceRow.holds Try.pinned (OpenSpec.ofChange routeOnceSpec)

/-- ITS FALSE NEIGHBOUR: 'it returns false'. Refute it at one input. -/
def routeOnceWrong : ChangeSpec := { name := "routeOnce", fn := fun _ => fun
  | [d1, d2, d3, d4] => { results := [.lit (.bool false)], args := [d1, d2, d3, d4] }
  | _ => none }
def RouteOnceWrongFalsely : Prop := routeOnceRow.holds Try.pinned (OpenSpec.ofChange routeOnceWrong)

/-- 'hourglasslaw07.RouteEvery': WHATEVER THE INPUT: true; the input reads as it did. -/
def routeEverySpec : ChangeSpec := { name := "routeEvery", fn := fun _ => fun
  | [d1, d2] => { results := [.lit (.bool true)], args := [d1, d2] }
  | _ => none }
def routeEveryRow : OpenClaim := { program := "ytddddlphnoicpaa", sum := "afa6f7bc82b00dbce254e85ddff080c57d4fb6b77b021143cde975473c6d7e57", func := "hourglass/hourglasslaw07.RouteEvery", spec := "routeEvery", unfollowed := true, recurses := true, apart := false }
def RouteEverySaid : Prop := routeEveryRow.holds Try.pinned (OpenSpec.ofChange routeEverySpec)

/-- ITS FALSE NEIGHBOUR: 'it returns false'. Refute it at one input. -/
def routeEveryWrong : ChangeSpec := { name := "routeEvery", fn := fun _ => fun
  | [d1, d2] => { results := [.lit (.bool false)], args := [d1, d2] }
  | _ => none }
def RouteEveryWrongFalsely : Prop := routeEveryRow.holds Try.pinned (OpenSpec.ofChange routeEveryWrong)

/-- 'hourglasslaw07.RouteWords': WHATEVER THE INPUT: true; the input reads as it did. -/
def routeWordsSpec : ChangeSpec := { name := "routeWords", fn := fun _ => fun
  | [d1, d2, d3, d4, d5] => { results := [.lit (.bool true)], args := [d1, d2, d3, d4, d5] }
  | _ => none }
def routeWordsRow : OpenClaim := { program := "ytddddlphnoicpaa", sum := "afa6f7bc82b00dbce254e85ddff080c57d4fb6b77b021143cde975473c6d7e57", func := "hourglass/hourglasslaw07.RouteWords", spec := "routeWords", unfollowed := true, recurses := true, apart := false }
def RouteWordsSaid : Prop := routeWordsRow.holds Try.pinned (OpenSpec.ofChange routeWordsSpec)

/-- ITS FALSE NEIGHBOUR: 'it returns false'. Refute it at one input. -/
def routeWordsWrong : ChangeSpec := { name := "routeWords", fn := fun _ => fun
  | [d1, d2, d3, d4, d5] => { results := [.lit (.bool false)], args := [d1, d2, d3, d4, d5] }
  | _ => none }
def RouteWordsWrongFalsely : Prop := routeWordsRow.holds Try.pinned (OpenSpec.ofChange routeWordsWrong)

/-- 'hourglasslaw07.RouteBegins': WHATEVER THE INPUT: true; the input reads as it did. -/
def routeBeginsSpec : ChangeSpec := { name := "routeBegins", fn := fun _ => fun
  | [d1, d2, d3, d4, d5] => { results := [.lit (.bool true)], args := [d1, d2, d3, d4, d5] }
  | _ => none }
def routeBeginsRow : OpenClaim := { program := "ytddddlphnoicpaa", sum := "afa6f7bc82b00dbce254e85ddff080c57d4fb6b77b021143cde975473c6d7e57", func := "hourglass/hourglasslaw07.RouteBegins", spec := "routeBegins", unfollowed := true, recurses := true, apart := false }
def RouteBeginsSaid : Prop := routeBeginsRow.holds Try.pinned (OpenSpec.ofChange routeBeginsSpec)

/-- ITS FALSE NEIGHBOUR: 'it returns false'. Refute it at one input. -/
def routeBeginsWrong : ChangeSpec := { name := "routeBegins", fn := fun _ => fun
  | [d1, d2, d3, d4, d5] => { results := [.lit (.bool false)], args := [d1, d2, d3, d4, d5] }
  | _ => none }
def RouteBeginsWrongFalsely : Prop := routeBeginsRow.holds Try.pinned (OpenSpec.ofChange routeBeginsWrong)

/- THE SECOND FORM. 'bulk': how many values and letters a reading holds, each counted each time it is reached (what is shared counts as often as it is met; a slice's spare places count too). A statement '..UptoSaid' is the law's where the arguments, and the package variables that the reading takes, are together of bulk at most 1048576: NARROWER than '..Said'. Prove '..Said' where nothing that the law and all that it calls make is longer than what came in: it says more and counts as full. Else prove '..UptoSaid'. A law counts once. -/
mutual
def uptoBulk {H : Type} : DataW H → Nat
  | .lit (.string bytes) => bytes.length + 1
  | .lit _ => 1
  | .nil => 1
  | .ptr d => uptoBulk d + 1
  | .slice elems spare => uptoBulkAll elems + uptoBulkAll spare + 1
  | .agg parts => uptoBulkAll parts + 1
  | .iface _ d => uptoBulk d + 1
  | .map entries => uptoBulkEntries entries + 1
  | .held _ => 1
def uptoBulkAll {H : Type} : List (DataW H) → Nat
  | [] => 0
  | d :: r => uptoBulk d + uptoBulkAll r
def uptoBulkEntries {H : Type} : List (Lit × DataW H) → Nat
  | [] => 0
  | x :: r => uptoBulkEntry x + uptoBulkEntries r
def uptoBulkEntry {H : Type} : Lit × DataW H → Nat
  | (.string bytes, d) => bytes.length + uptoBulk d + 1
  | (_, d) => uptoBulk d + 1
 end
def uptoSmall : (H : Type) → List (DataW H) → Bool := fun _ ds => decide (uptoBulkAll ds ≤ 1048576)
def OpenSpec.upto (s : _root_.Go.ChangeSpec) : _root_.Go.OpenSpec := { _root_.Go.OpenSpec.ofChange s with cond := some uptoSmall }

/-- 'hourglasslaw07.RouteTells', WHERE WHAT IT READS IS OF BULK AT MOST 1048576: true; the input reads as it did. -/
def routeTellsUptoRow : OpenClaim := { program := "ytddddlphnoicpaa", sum := "afa6f7bc82b00dbce254e85ddff080c57d4fb6b77b021143cde975473c6d7e57", func := "hourglass/hourglasslaw07.RouteTells", spec := "routeTells", unfollowed := true, recurses := true, apart := false, narrowed := true }
def RouteTellsUptoSaid : Prop := routeTellsUptoRow.holds Try.pinned (OpenSpec.upto routeTellsSpec)

/-- 'hourglasslaw07.RouteOnce', WHERE WHAT IT READS IS OF BULK AT MOST 1048576: true; the input reads as it did. -/
def routeOnceUptoRow : OpenClaim := { program := "ytddddlphnoicpaa", sum := "afa6f7bc82b00dbce254e85ddff080c57d4fb6b77b021143cde975473c6d7e57", func := "hourglass/hourglasslaw07.RouteOnce", spec := "routeOnce", unfollowed := true, recurses := true, apart := false, narrowed := true }
def RouteOnceUptoSaid : Prop := routeOnceUptoRow.holds Try.pinned (OpenSpec.upto routeOnceSpec)

/-- 'hourglasslaw07.RouteEvery', WHERE WHAT IT READS IS OF BULK AT MOST 1048576: true; the input reads as it did. -/
def routeEveryUptoRow : OpenClaim := { program := "ytddddlphnoicpaa", sum := "afa6f7bc82b00dbce254e85ddff080c57d4fb6b77b021143cde975473c6d7e57", func := "hourglass/hourglasslaw07.RouteEvery", spec := "routeEvery", unfollowed := true, recurses := true, apart := false, narrowed := true }
def RouteEveryUptoSaid : Prop := routeEveryUptoRow.holds Try.pinned (OpenSpec.upto routeEverySpec)

/-- 'hourglasslaw07.RouteWords', WHERE WHAT IT READS IS OF BULK AT MOST 1048576: true; the input reads as it did. -/
def routeWordsUptoRow : OpenClaim := { program := "ytddddlphnoicpaa", sum := "afa6f7bc82b00dbce254e85ddff080c57d4fb6b77b021143cde975473c6d7e57", func := "hourglass/hourglasslaw07.RouteWords", spec := "routeWords", unfollowed := true, recurses := true, apart := false, narrowed := true }
def RouteWordsUptoSaid : Prop := routeWordsUptoRow.holds Try.pinned (OpenSpec.upto routeWordsSpec)

/-- 'hourglasslaw07.RouteBegins', WHERE WHAT IT READS IS OF BULK AT MOST 1048576: true; the input reads as it did. -/
def routeBeginsUptoRow : OpenClaim := { program := "ytddddlphnoicpaa", sum := "afa6f7bc82b00dbce254e85ddff080c57d4fb6b77b021143cde975473c6d7e57", func := "hourglass/hourglasslaw07.RouteBegins", spec := "routeBegins", unfollowed := true, recurses := true, apart := false, narrowed := true }
def RouteBeginsUptoSaid : Prop := routeBeginsUptoRow.holds Try.pinned (OpenSpec.upto routeBeginsSpec)

end Rows
end Go.Proofs.Ytddddlphnoicpaa
