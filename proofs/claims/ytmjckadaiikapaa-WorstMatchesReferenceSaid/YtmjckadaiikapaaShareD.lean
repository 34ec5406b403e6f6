/-
  The walks of package share, fourth part: Sell and Grant.
-/
import Derived.Test.YtmjckadaiikapaaShareC
import Derived.Deep.DeepCutAuto
namespace Go.Proofs.Ytmjckadaiikapaa
set_option linter.unusedSimpArgs false
set_option linter.unusedVariables false
open Go.RowKit
theorem Row.set3 {w : World} {b : Nat} {x0 x1 x2 : Value} (h : Row w b [x0, x1, x2]) (v0 v1 v2 : Value) : Row (((w.setCell ⟨b, 0, none⟩ v0).setCell ⟨b, 1, none⟩ v1).setCell ⟨b, 2, none⟩ v2) b [v0, v1, v2] := by
  obtain ⟨T, h⟩ := h
  refine ⟨T, ?_⟩
  simp [World.setCell, Array.getElem?_modify, h]

theorem nightB_parts {rooms sold : Int} {zs : List Int} (h : nightB rooms sold zs = true) : zs.length ≤ 30 ∧ shIn zs ∧ (0 ≤ rooms ∧ rooms ≤ 400) ∧ 0 ≤ sold ∧ sold ≤ 1000 := by
  unfold nightB at h
  simp only [Bool.and_eq_true, Bool.not_eq_true'] at h
  obtain ⟨⟨h1, h2⟩, h3⟩ := h
  obtain ⟨a, b⟩ := sharesB_in h1
  simp [outB] at h2 h3
  exact ⟨a, b, by omega, by omega⟩


end Go.Proofs.Ytmjckadaiikapaa
