/-
  What holds at each operation of a drawn region may be told more closely from some place on. No program in sight.
-/
import Derived.Test.YtgdphamdbpkjdaaDoorReg
namespace Go.Hg
open Go.RowKit
section
variable {P : Program} {ops : Array Oper} {Q : Exit → Act → World → Prop} {md : Region.Mode} {S S' : World → Prop} {L : Nat}
theorem wpAnyL_up (hup : ∀ w, S' w → S w) : ∀ (fuel : Nat) (listed : Array Bool) (a : Act) (w : World), wpAnyL P md ops Q S' L fuel listed a w → wpAnyL P md ops Q S L fuel listed a w
  | 0, _, _, _, h => h
  | fuel + 1, _, _, _, h => ⟨h.1, fun i hi => wpOp_mono (fun _ _ h3 => ⟨h3.1.imp id (hup _), wpAnyL_up hup fuel _ _ _ h3.2⟩) (h.2 i hi)⟩
theorem wpL_up {steps : List (Nat × Bool)} {a : Act} {w : World} (hup : ∀ w, S' w → S w) (h : wpSeq P md ops Q S' L steps a w) : wpSeq P md ops Q S L steps a w :=
  fun listed hk => wpAnyL_up hup _ _ _ _ (h listed hk)
end
end Go.Hg
