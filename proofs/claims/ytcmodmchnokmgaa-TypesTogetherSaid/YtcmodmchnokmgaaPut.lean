/-
  Cells stored one behind the other.
-/
import Derived.Test.YtcmodmchnokmgaaCh
namespace Go.Proofs.Ytcmodmchnokmgaa
set_option linter.unusedSimpArgs false
set_option linter.unusedVariables false
open Go.RowKit

/-- Cells stored one behind the other. -/
def puz (w : World) (b : Nat) : Nat → List Value → World
  | _, [] => w
  | i, v :: r => puz (w.setCell ⟨b, i, none⟩ v) b (i + 1) r
theorem Row.setAtZ {w : World} {b : Nat} {cs : List Value} (h : Row w b cs) (i : Nat) (v : Value) : Row (w.setCell ⟨b, i, none⟩ v) b (cs.set i v) := by
  obtain ⟨T, h⟩ := h
  exact ⟨T, by simp [World.setCell, Array.getElem?_modify, h]⟩
theorem Row.puz {b : Nat} : ∀ (vs : List Value) (i : Nat) {w : World} {cs : List Value}, Row w b cs → i + vs.length ≤ cs.length → Row (puz w b i vs) b (cs.take i ++ vs ++ cs.drop (i + vs.length))
  | [], i, w, cs, h, hl => by simpa [Go.Proofs.Ytcmodmchnokmgaa.puz] using h
  | v :: r, i, w, cs, h, hl => by
    have := Row.puz r (i + 1) (h.setAtZ i v) (by simp at hl ⊢; omega)
    unfold Go.Proofs.Ytcmodmchnokmgaa.puz
    simp at hl
    have e1 : (cs.set i v).take (i + 1) = cs.take i ++ [v] := by
      rw [List.take_succ_eq_append_getElem (by simp; omega), List.take_set_of_le (Nat.le_refl _)]
      simp
    have e2 : (cs.set i v).drop (i + 1 + r.length) = cs.drop (i + (v :: r).length) := by
      rw [List.drop_set_of_lt (by omega)]
      congr 1
      simp; omega
    rw [e1, e2] at this
    simpa using this
theorem Ch.puz {b : Nat} : ∀ (vs : List Value) (i : Nat) {A w : World}, Ch (fun k => k = b) A w → Ch (fun k => k = b) A (puz w b i vs)
  | [], _, _, _, h => h
  | v :: r, i, _, _, h => Ch.puz r (i + 1) (h.setCell (p := ⟨b, i, none⟩) rfl v)
theorem puz_all {w : World} {b : Nat} {cs : List Value} (h : Row w b cs) (vs : List Value) (hl : vs.length = cs.length) : Row (Go.Proofs.Ytcmodmchnokmgaa.puz w b 0 vs) b vs ∧ Ch (fun k => k = b) w (Go.Proofs.Ytcmodmchnokmgaa.puz w b 0 vs) := by
  refine ⟨?_, Ch.puz vs 0 (Ch.refl _ w)⟩
  have := h.puz vs 0 (by omega)
  simpa [hl] using this

end Go.Proofs.Ytcmodmchnokmgaa
