/-
 More small facts that the walks use: blocks that stay, a row of two cells stored anew.
-/
import Derived.Test.YtlmajlfhjbhdpaaGreatBase
namespace Go.Proofs.YtlmajlfhjbhdpaaGreat
set_option linter.unusedSimpArgs false
set_option linter.unusedVariables false
open Go.RowKit
theorem bsize {W w1 : World} (hb : Below W.heap.size W w1) : ∀ b, b < W.heap.size → b < w1.heap.size := fun b h => Nat.lt_of_lt_of_le h hb.size
theorem Row.set2 {w : World} {b : Nat} {x0 x1 : Value} (h : Row w b [x0, x1]) (v0 v1 : Value) : Row ((w.setCell ⟨b, 0, none⟩ v0).setCell ⟨b, 1, none⟩ v1) b [v0, v1] := by
 obtain ⟨T, h⟩ := h
 refine ⟨T, ?_⟩
 simp [World.setCell, Array.getElem?_modify, h]
theorem Row.set2' {w : World} {b : Nat} (h : ∃ x0 x1, Row w b [x0, x1]) (v0 v1 : Value) : Row ((w.setCell ⟨b, 0, none⟩ v0).setCell ⟨b, 1, none⟩ v1) b [v0, v1] := by
 obtain ⟨x0, x1, h⟩ := h
 exact h.set2 v0 v1
end Go.Proofs.YtlmajlfhjbhdpaaGreat
