/-
  What a slice of ints among the arguments holds.
-/
import Derived.Test.YtdijdfhlmnhcjaaLaw
import Derived.Test.YtdijdfhlmnhcjaaOwnV
namespace Go.Proofs.Ytdijdfhlmnhcjaa
set_option linter.unusedSimpArgs false
set_option linter.unusedVariables false
open Go.ChangeShapes Go.WideShapes Go.ChangeAt Go.RowKit

theorem cells_int : Try.prog.cellsOf 3 = 1 := by kernel_rfl
theorem slv_of_ints {H : Type} {enc : TypeId × Value → H} {w : World} {fuel : Nat} {v : Value} {x : DataW H × List MemPlace} (h : DataW.trod enc Try.prog w 0 (fun _ => true) true fuel 23 [v] = some x) :
    ∃ zs, SlV w v zs ∧ ∀ z ∈ zs, -9223372036854775808 ≤ z ∧ z ≤ 9223372036854775807 := by
  rcases open_ints Try.underlying23 Try.underlying3 cells_int h with ⟨hcs, _⟩ | ⟨a, len, cap, zs, hcs, _, hl, hm, hz, _, hcell, hwf⟩
  · simp only [List.cons.injEq, and_true] at hcs
    subst hcs
    exact ⟨[], SlV.nil w, fun z hz => by simp at hz⟩
  · simp only [List.cons.injEq, and_true] at hcs
    subst hcs
    simp only [if_true] at hz
    have hlen : (zs.take len).length = len := by rw [List.length_take]; omega
    refine ⟨zs.take len, ⟨some a, cap, by rw [hlen], ?_, by rw [hlen]; exact hl, hm⟩, fun z hzm => bd_i64 (hwf z (List.mem_of_mem_take hzm))⟩
    rw [hlen]
    refine ⟨hlen, fun i hi => ?_⟩
    obtain ⟨b, off, spot⟩ := a
    have h0 := hcell i (by omega)
    have h00 := hcell 0 (by omega)
    have hsp : spot = none := by
      cases spot with
      | none => rfl
      | some s => simp only [World.cell?, Addr.add] at h00; split at h00 <;> simp at h00
    subst hsp
    refine ⟨b, off, rfl, ?_⟩
    rw [show (⟨b, off, none⟩ : Addr).add i = ⟨b, off + i, none⟩ by simp [Addr.add]] at h0
    rw [h0]
    simp [List.getD_eq_getElem?_getD, List.getElem?_take, hi]

end Go.Proofs.Ytdijdfhlmnhcjaa
