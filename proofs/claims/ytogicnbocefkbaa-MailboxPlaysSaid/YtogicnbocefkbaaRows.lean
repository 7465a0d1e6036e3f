/-
  No cell of these rows narrows 'for every input' (looked for: loops, veiled, ifaces, maps, wideKeys, modest, calm, conditions, laid).
  DERIVED. THE GIVEN ROWS OF THIS SEAT. 7 by the template 'for every input the law returns true; each argument reads behind the call as it read before'; 0 by the template 'total and deterministic' (their statements: YtogicnbocefkbaaTotals.lean).
  GIVEN WITH THE SEED: the statements are not yours to turn. If you find one false, say at which input.
  Laid BY PROGRAM, IN A SANDBOX (cutbox-rows.mjs): the forced cells as the released guide's own fill.sh prints them over the translation 3c41d154b94b1e77… (all of the seat's roots in one cut). By AI agents, Wed Nov 11 2026. No macro, syntax, notation, axiom, sorry.
-/
import Derived.Test.YtogicnbocefkbaaChecked
import GoSem.Claim
import GoSem.ClaimJoined
import GoSem.ClaimMapViews
import Derived.JoinedTies
import Derived.KernelRfl
namespace Go.Proofs.Ytogicnbocefkbaa
/- THE CELL 'sum', in the pinned program and in every row, IS THE sha256 OF THE DUMP (.gsa) THAT YtogicnbocefkbaaProg.lean LOADS. Nothing in Lean hashes anything: it is a label: what it is worth is what the hold of that sum in a sandbox is worth. -/
noncomputable def Try.pinned : Pinned := { name := "ytogicnbocefkbaa", sum := "3c41d154b94b1e7702ea39ba3982cf7ab9a602b4f437541d434e20f8066eb698", checked := Try.checked }
namespace Rows
def none {H : Type} : Left H := { results := [], args := [] }

/-- 'hourglasslaw15.MailboxPlays': WHATEVER THE INPUT: true; the input reads as it did. -/
def mailboxPlaysSpec : ChangeSpec := { name := "mailboxPlays", fn := fun _ => fun
  | [d1, d2] => { results := [.lit (.bool true)], args := [d1, d2] }
  | _ => none }
def mailboxPlaysRow : OpenClaim := { program := "ytogicnbocefkbaa", sum := "3c41d154b94b1e7702ea39ba3982cf7ab9a602b4f437541d434e20f8066eb698", func := "hourglass/hourglasslaw15.MailboxPlays", spec := "mailboxPlays", apart := false }
def MailboxPlaysSaid : Prop := mailboxPlaysRow.holds Try.pinned (OpenSpec.ofChange mailboxPlaysSpec)

/-- ITS FALSE NEIGHBOUR: 'it returns false'. Refute it at one input. -/
def mailboxPlaysWrong : ChangeSpec := { name := "mailboxPlays", fn := fun _ => fun
  | [d1, d2] => { results := [.lit (.bool false)], args := [d1, d2] }
  | _ => none }
def MailboxPlaysWrongFalsely : Prop := mailboxPlaysRow.holds Try.pinned (OpenSpec.ofChange mailboxPlaysWrong)

/-- 'hourglasslaw15.MailboxOnce': WHATEVER THE INPUT: true; the input reads as it did. -/
def mailboxOnceSpec : ChangeSpec := { name := "mailboxOnce", fn := fun _ => fun
  | [d1, d2, d3] => { results := [.lit (.bool true)], args := [d1, d2, d3] }
  | _ => none }
def mailboxOnceRow : OpenClaim := { program := "ytogicnbocefkbaa", sum := "3c41d154b94b1e7702ea39ba3982cf7ab9a602b4f437541d434e20f8066eb698", func := "hourglass/hourglasslaw15.MailboxOnce", spec := "mailboxOnce", apart := false }
def MailboxOnceSaid : Prop := mailboxOnceRow.holds Try.pinned (OpenSpec.ofChange mailboxOnceSpec)

/-- ITS FALSE NEIGHBOUR: 'it returns false'. Refute it at one input. -/
def mailboxOnceWrong : ChangeSpec := { name := "mailboxOnce", fn := fun _ => fun
  | [d1, d2, d3] => { results := [.lit (.bool false)], args := [d1, d2, d3] }
  | _ => none }
def MailboxOnceWrongFalsely : Prop := mailboxOnceRow.holds Try.pinned (OpenSpec.ofChange mailboxOnceWrong)

/-- 'hourglasslaw15.MailboxFull': WHATEVER THE INPUT: true; the input reads as it did. -/
def mailboxFullSpec : ChangeSpec := { name := "mailboxFull", fn := fun _ => fun
  | [d1, d2, d3] => { results := [.lit (.bool true)], args := [d1, d2, d3] }
  | _ => none }
def mailboxFullRow : OpenClaim := { program := "ytogicnbocefkbaa", sum := "3c41d154b94b1e7702ea39ba3982cf7ab9a602b4f437541d434e20f8066eb698", func := "hourglass/hourglasslaw15.MailboxFull", spec := "mailboxFull", apart := false }
def MailboxFullSaid : Prop := mailboxFullRow.holds Try.pinned (OpenSpec.ofChange mailboxFullSpec)

/-- ITS FALSE NEIGHBOUR: 'it returns false'. Refute it at one input. -/
def mailboxFullWrong : ChangeSpec := { name := "mailboxFull", fn := fun _ => fun
  | [d1, d2, d3] => { results := [.lit (.bool false)], args := [d1, d2, d3] }
  | _ => none }
def MailboxFullWrongFalsely : Prop := mailboxFullRow.holds Try.pinned (OpenSpec.ofChange mailboxFullWrong)

/-- 'hourglasslaw15.MailboxApart': WHATEVER THE INPUT: true; the input reads as it did. -/
def mailboxApartSpec : ChangeSpec := { name := "mailboxApart", fn := fun _ => fun
  | [d1, d2, d3] => { results := [.lit (.bool true)], args := [d1, d2, d3] }
  | _ => none }
def mailboxApartRow : OpenClaim := { program := "ytogicnbocefkbaa", sum := "3c41d154b94b1e7702ea39ba3982cf7ab9a602b4f437541d434e20f8066eb698", func := "hourglass/hourglasslaw15.MailboxApart", spec := "mailboxApart", apart := false }
def MailboxApartSaid : Prop := mailboxApartRow.holds Try.pinned (OpenSpec.ofChange mailboxApartSpec)

/-- ITS FALSE NEIGHBOUR: 'it returns false'. Refute it at one input. -/
def mailboxApartWrong : ChangeSpec := { name := "mailboxApart", fn := fun _ => fun
  | [d1, d2, d3] => { results := [.lit (.bool false)], args := [d1, d2, d3] }
  | _ => none }
def MailboxApartWrongFalsely : Prop := mailboxApartRow.holds Try.pinned (OpenSpec.ofChange mailboxApartWrong)

/-- 'hourglasslaw15.MailboxParts': WHATEVER THE INPUT: true; the input reads as it did. -/
def mailboxPartsSpec : ChangeSpec := { name := "mailboxParts", fn := fun _ => fun
  | [d1, d2, d3] => { results := [.lit (.bool true)], args := [d1, d2, d3] }
  | _ => none }
def mailboxPartsRow : OpenClaim := { program := "ytogicnbocefkbaa", sum := "3c41d154b94b1e7702ea39ba3982cf7ab9a602b4f437541d434e20f8066eb698", func := "hourglass/hourglasslaw15.MailboxParts", spec := "mailboxParts", apart := false }
def MailboxPartsSaid : Prop := mailboxPartsRow.holds Try.pinned (OpenSpec.ofChange mailboxPartsSpec)

/-- ITS FALSE NEIGHBOUR: 'it returns false'. Refute it at one input. -/
def mailboxPartsWrong : ChangeSpec := { name := "mailboxParts", fn := fun _ => fun
  | [d1, d2, d3] => { results := [.lit (.bool false)], args := [d1, d2, d3] }
  | _ => none }
def MailboxPartsWrongFalsely : Prop := mailboxPartsRow.holds Try.pinned (OpenSpec.ofChange mailboxPartsWrong)

/-- 'hourglasslaw15.MailboxAgain': WHATEVER THE INPUT: true; the input reads as it did. -/
def mailboxAgainSpec : ChangeSpec := { name := "mailboxAgain", fn := fun _ => fun
  | [d1, d2] => { results := [.lit (.bool true)], args := [d1, d2] }
  | _ => none }
def mailboxAgainRow : OpenClaim := { program := "ytogicnbocefkbaa", sum := "3c41d154b94b1e7702ea39ba3982cf7ab9a602b4f437541d434e20f8066eb698", func := "hourglass/hourglasslaw15.MailboxAgain", spec := "mailboxAgain", apart := false }
def MailboxAgainSaid : Prop := mailboxAgainRow.holds Try.pinned (OpenSpec.ofChange mailboxAgainSpec)

/-- ITS FALSE NEIGHBOUR: 'it returns false'. Refute it at one input. -/
def mailboxAgainWrong : ChangeSpec := { name := "mailboxAgain", fn := fun _ => fun
  | [d1, d2] => { results := [.lit (.bool false)], args := [d1, d2] }
  | _ => none }
def MailboxAgainWrongFalsely : Prop := mailboxAgainRow.holds Try.pinned (OpenSpec.ofChange mailboxAgainWrong)

/-- 'hourglasslaw15.MailboxRolls': WHATEVER THE INPUT: true; the input reads as it did. -/
def mailboxRollsSpec : ChangeSpec := { name := "mailboxRolls", fn := fun _ => fun
  | [d1, d2] => { results := [.lit (.bool true)], args := [d1, d2] }
  | _ => none }
def mailboxRollsRow : OpenClaim := { program := "ytogicnbocefkbaa", sum := "3c41d154b94b1e7702ea39ba3982cf7ab9a602b4f437541d434e20f8066eb698", func := "hourglass/hourglasslaw15.MailboxRolls", spec := "mailboxRolls", apart := false }
def MailboxRollsSaid : Prop := mailboxRollsRow.holds Try.pinned (OpenSpec.ofChange mailboxRollsSpec)

/-- ITS FALSE NEIGHBOUR: 'it returns false'. Refute it at one input. -/
def mailboxRollsWrong : ChangeSpec := { name := "mailboxRolls", fn := fun _ => fun
  | [d1, d2] => { results := [.lit (.bool false)], args := [d1, d2] }
  | _ => none }
def MailboxRollsWrongFalsely : Prop := mailboxRollsRow.holds Try.pinned (OpenSpec.ofChange mailboxRollsWrong)

/- THE SECOND FORM. 'bulk': how many values and letters a reading holds, each counted each time it is reached (what is shared counts as often as it is met; a slice's spare places count too). A statement '..UptoSaid' is the law's where the arguments, and the package variables that the reading takes, are together of bulk at most 1048576: NARROWER than '..Said'. Prove '..Said' where nothing that the law and all that it calls make is longer than what came in: it says more and counts as full. Else prove '..UptoSaid'. A law counts once. -/
mutual
def uptoBulk {H : Type} : DataW H → Nat
  | .lit (.string bytes) => bytes.length + 1
  | .lit _ => 1
  | .nil => 1
  | .ptr d => uptoBulk d + 1
  | .slice elems spare => uptoBulkAll elems + uptoBulkAll spare + 1
  | .agg parts => uptoBulkAll parts + 1
  | .iface _ d => uptoBulk d + 1
  | .map entries => uptoBulkEntries entries + 1
  | .held _ => 1
def uptoBulkAll {H : Type} : List (DataW H) → Nat
  | [] => 0
  | d :: r => uptoBulk d + uptoBulkAll r
def uptoBulkEntries {H : Type} : List (Lit × DataW H) → Nat
  | [] => 0
  | x :: r => uptoBulkEntry x + uptoBulkEntries r
def uptoBulkEntry {H : Type} : Lit × DataW H → Nat
  | (.string bytes, d) => bytes.length + uptoBulk d + 1
  | (_, d) => uptoBulk d + 1
 end
def uptoSmall : (H : Type) → List (DataW H) → Bool := fun _ ds => decide (uptoBulkAll ds ≤ 1048576)
def OpenSpec.upto (s : _root_.Go.ChangeSpec) : _root_.Go.OpenSpec := { _root_.Go.OpenSpec.ofChange s with cond := some uptoSmall }

/-- 'hourglasslaw15.MailboxPlays', WHERE WHAT IT READS IS OF BULK AT MOST 1048576: true; the input reads as it did. -/
def mailboxPlaysUptoRow : OpenClaim := { program := "ytogicnbocefkbaa", sum := "3c41d154b94b1e7702ea39ba3982cf7ab9a602b4f437541d434e20f8066eb698", func := "hourglass/hourglasslaw15.MailboxPlays", spec := "mailboxPlays", apart := false, narrowed := true }
def MailboxPlaysUptoSaid : Prop := mailboxPlaysUptoRow.holds Try.pinned (OpenSpec.upto mailboxPlaysSpec)

/-- 'hourglasslaw15.MailboxOnce', WHERE WHAT IT READS IS OF BULK AT MOST 1048576: true; the input reads as it did. -/
def mailboxOnceUptoRow : OpenClaim := { program := "ytogicnbocefkbaa", sum := "3c41d154b94b1e7702ea39ba3982cf7ab9a602b4f437541d434e20f8066eb698", func := "hourglass/hourglasslaw15.MailboxOnce", spec := "mailboxOnce", apart := false, narrowed := true }
def MailboxOnceUptoSaid : Prop := mailboxOnceUptoRow.holds Try.pinned (OpenSpec.upto mailboxOnceSpec)

/-- 'hourglasslaw15.MailboxFull', WHERE WHAT IT READS IS OF BULK AT MOST 1048576: true; the input reads as it did. -/
def mailboxFullUptoRow : OpenClaim := { program := "ytogicnbocefkbaa", sum := "3c41d154b94b1e7702ea39ba3982cf7ab9a602b4f437541d434e20f8066eb698", func := "hourglass/hourglasslaw15.MailboxFull", spec := "mailboxFull", apart := false, narrowed := true }
def MailboxFullUptoSaid : Prop := mailboxFullUptoRow.holds Try.pinned (OpenSpec.upto mailboxFullSpec)

/-- 'hourglasslaw15.MailboxApart', WHERE WHAT IT READS IS OF BULK AT MOST 1048576: true; the input reads as it did. -/
def mailboxApartUptoRow : OpenClaim := { program := "ytogicnbocefkbaa", sum := "3c41d154b94b1e7702ea39ba3982cf7ab9a602b4f437541d434e20f8066eb698", func := "hourglass/hourglasslaw15.MailboxApart", spec := "mailboxApart", apart := false, narrowed := true }
def MailboxApartUptoSaid : Prop := mailboxApartUptoRow.holds Try.pinned (OpenSpec.upto mailboxApartSpec)

/-- 'hourglasslaw15.MailboxParts', WHERE WHAT IT READS IS OF BULK AT MOST 1048576: true; the input reads as it did. -/
def mailboxPartsUptoRow : OpenClaim := { program := "ytogicnbocefkbaa", sum := "3c41d154b94b1e7702ea39ba3982cf7ab9a602b4f437541d434e20f8066eb698", func := "hourglass/hourglasslaw15.MailboxParts", spec := "mailboxParts", apart := false, narrowed := true }
def MailboxPartsUptoSaid : Prop := mailboxPartsUptoRow.holds Try.pinned (OpenSpec.upto mailboxPartsSpec)

/-- 'hourglasslaw15.MailboxAgain', WHERE WHAT IT READS IS OF BULK AT MOST 1048576: true; the input reads as it did. -/
def mailboxAgainUptoRow : OpenClaim := { program := "ytogicnbocefkbaa", sum := "3c41d154b94b1e7702ea39ba3982cf7ab9a602b4f437541d434e20f8066eb698", func := "hourglass/hourglasslaw15.MailboxAgain", spec := "mailboxAgain", apart := false, narrowed := true }
def MailboxAgainUptoSaid : Prop := mailboxAgainUptoRow.holds Try.pinned (OpenSpec.upto mailboxAgainSpec)

/-- 'hourglasslaw15.MailboxRolls', WHERE WHAT IT READS IS OF BULK AT MOST 1048576: true; the input reads as it did. -/
def mailboxRollsUptoRow : OpenClaim := { program := "ytogicnbocefkbaa", sum := "3c41d154b94b1e7702ea39ba3982cf7ab9a602b4f437541d434e20f8066eb698", func := "hourglass/hourglasslaw15.MailboxRolls", spec := "mailboxRolls", apart := false, narrowed := true }
def MailboxRollsUptoSaid : Prop := mailboxRollsUptoRow.holds Try.pinned (OpenSpec.upto mailboxRollsSpec)

end Rows
end Go.Proofs.Ytogicnbocefkbaa
