import Derived.Test.YtmflbekabkainaaGreatDoorQHgB
set_option linter.unusedVariables false
namespace Go.Proofs.YtmflbekabkainaaGreatDoor
open Go.RowKit Go.Hg
def quartersZ : List Int := [0, 4, 8, 12, 1, 5, 9, 13, 2, 6, 10, 14, 3, 7, 11, 15, 0, 5, 10, 15, 1, 6, 11, 12, 2, 7, 8, 13, 3, 4, 9, 14]
def turnsZ : List Int := [16, 12, 8, 7]
structure Glob (w0 : World) : Prop where
 first : w0.rangeAt 3 0 (v32 H0)
 steady : w0.rangeAt 4 0 (v32 K0)
 begins : w0.rangeAt 0 0 (v32 sigma)
 quarters : w0.rangeAt 1 0 (quartersZ.map (Value.int .i64))
 turns : w0.rangeAt 2 0 (turnsZ.map (Value.int .i64))
theorem at_range {w0 w : World} {L : List SP} (H : At w0 L w) {b off : Nat} {cells : List Value} (h : w0.rangeAt b off cells) : w.rangeAt b off cells :=
 fun j v hj => (H.below.cell (World.block_lt_of_cell? w0 _ (h j v hj))).trans (h j v hj)
theorem at_glob {w0 w : World} {L : List SP} (H : At w0 L w) {b : Nat} {cells : List Value} (h : w0.rangeAt b 0 cells) {j : Nat} {v : Value} (hj : cells[j]? = some v) : w.cell? ⟨b, j, none⟩ = some v := by
 have := at_range H h j v hj
 rwa [Nat.zero_add] at this
theorem Glob.at {w0 w : World} {L : List SP} (G : Glob w0) (H : At w0 L w) : Glob w :=
 ⟨at_range H G.first, at_range H G.steady, at_range H G.begins, at_range H G.quarters, at_range H G.turns⟩
end Go.Proofs.YtmflbekabkainaaGreatDoor
