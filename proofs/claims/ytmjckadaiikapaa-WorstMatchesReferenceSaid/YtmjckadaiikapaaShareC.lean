/-
  The walks of package share, third part: a night's channel; a share that grows.
-/
import Derived.Test.YtmjckadaiikapaaTopC
import Derived.Test.YtmjckadaiikapaaOwnS
import Derived.Test.YtmjckadaiikapaaBase2
import Derived.IntWalk
namespace Go.Proofs.Ytmjckadaiikapaa
set_option linter.unusedSimpArgs false
set_option linter.unusedVariables false
open Go.RowKit
theorem SlI.drop {w : World} {b off n : Nat} {zs : List Int} (h : SlI w (some ⟨b, off, none⟩) n zs) (k : Nat) : SlI w (some ⟨b, off + k, none⟩) (n - k) (zs.drop k) := by
  refine ⟨by rw [List.length_drop, h.1], fun i hi => ?_⟩
  obtain ⟨b', off', e, hc⟩ := h.2 (k + i) (by omega)
  cases e
  refine ⟨b, off + k, rfl, ?_⟩
  rw [Nat.add_assoc, hc]
  simp [List.getD_eq_getElem?_getD, List.getElem?_drop]
theorem SlI.take {w : World} {a : Option Addr} {n : Nat} {zs : List Int} (h : SlI w a n zs) {k : Nat} (hk : k ≤ n) : SlI w a k (zs.take k) := by
  have hl := h.1
  refine ⟨by rw [List.length_take]; omega, fun i hi => ?_⟩
  obtain ⟨b', off', e, hc⟩ := h.2 i (by omega)
  refine ⟨b', off', e, ?_⟩
  rw [hc]
  simp [List.getD_eq_getElem?_getD, List.getElem?_take, hi]

theorem OwnI.other {w : World} {B : Nat} {zs : List Int} (h : OwnI w B zs) {a : Addr} (ha : B ≠ a.block) (v : Value) : OwnI (w.setCell a v) B zs := h.of_block (Below.heap_setCell _ _ _ _ ha)
theorem bcell' {B : Nat} {W w1 : World} (hb : Below B W w1) : (∀ b o, b < B → w1.cell? ⟨b, o, none⟩ = W.cell? ⟨b, o, none⟩) ∧ (∀ b o, b < B → w1.frozen? ⟨b, o, none⟩ = W.frozen? ⟨b, o, none⟩) :=
  ⟨fun b o h => hb.cell (p := ⟨b, o, none⟩) h, fun b o h => hb.frozen (p := ⟨b, o, none⟩) h⟩


end Go.Proofs.Ytmjckadaiikapaa
