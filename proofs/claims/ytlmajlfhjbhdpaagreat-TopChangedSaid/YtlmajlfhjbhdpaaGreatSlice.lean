/-
 Slices in memory: what it means that a slice value holds a list of ints, and that this stays so while nothing below a block number turns.
-/
import Derived.Test.YtlmajlfhjbhdpaaGreatBase
namespace Go.Proofs.YtlmajlfhjbhdpaaGreat
set_option linter.unusedSimpArgs false
set_option linter.unusedVariables false
open Go.RowKit
/-- The slice of length n at address a holds the ints zs. -/
def SlI (w : World) (a : Option Addr) (n : Nat) (zs : List Int) : Prop :=
 zs.length = n ∧ ∀ i, i < n → ∃ b off, a = some ⟨b, off, none⟩ ∧ w.cell? ⟨b, off + i, none⟩ = some (.int .i64 (zs.getD i 0))
theorem SlI.len {w : World} {a : Option Addr} {n : Nat} {zs : List Int} (h : SlI w a n zs) : zs.length = n := h.1
theorem SlI.nil (w : World) (a : Option Addr) : SlI w a 0 [] := ⟨rfl, fun i hi => absurd hi (by omega)⟩
/-- Where it is not empty: its address, and each cell. -/
theorem SlI.at {w : World} {a : Option Addr} {n : Nat} {zs : List Int} (h : SlI w a n zs) (hn : 0 < n) :
  ∃ b off, a = some ⟨b, off, none⟩ ∧ b < w.heap.size ∧ ∀ i, i < n → w.cell? ⟨b, off + i, none⟩ = some (.int .i64 (zs.getD i 0)) := by
 obtain ⟨b, off, ha, h0⟩ := h.2 0 hn
 refine ⟨b, off, ha, ?_, fun i hi => ?_⟩
 ·
  exact World.block_lt_of_cell? w _ h0
 ·
  obtain ⟨b', off', ha', hi'⟩ := h.2 i hi
  rw [ha] at ha'
  cases ha'
  exact hi'
theorem drop_at {l : List Int} {k : Nat} (h : k < l.length) : l.drop k = l.getD k 0 :: l.drop (k + 1) := by
 rw [List.drop_eq_getElem_cons h]; simp [List.getD, List.getElem?_eq_getElem h]
/-- One element, under a name of its own. -/
theorem SlI.get {w : World} {a : Option Addr} {n : Nat} {zs : List Int} (h : SlI w a n zs) {i : Nat} (hi : i < n) :
  ∃ b off z, a = some ⟨b, off, none⟩ ∧ b < w.heap.size ∧ w.cell? ⟨b, off + i, none⟩ = some (.int .i64 z) ∧ Hid (zs.getD i 0 = z) ∧ Hid (zs.drop i = z :: zs.drop (i + 1)) ∧ Hid (z ∈ zs) := by
 obtain ⟨b, off, ha, hb, hc⟩ := h.at (by omega)
 have hl := h.1
 refine ⟨b, off, zs.getD i 0, ha, hb, hc i hi, rfl, drop_at (by omega), ?_⟩
 show zs.getD i 0 ∈ zs
 simp [List.getD, List.getElem?_eq_getElem (show i < zs.length by omega)]
theorem SlI.below {w w1 : World} {a : Option Addr} {n : Nat} {zs : List Int} (h : SlI w a n zs) (hb : Below w.heap.size w w1) : SlI w1 a n zs := by
 refine ⟨h.1, fun i hi => ?_⟩
 obtain ⟨b, off, ha, hc⟩ := h.2 i hi
 exact ⟨b, off, ha, (hb.cell (p := ⟨b, off + i, none⟩) (World.block_lt_of_cell? w _ hc)).trans hc⟩
theorem SlI.of {w : World} {b off n : Nat} {zs : List Int} (hl : zs.length = n) (h : ∀ i, i < n → w.cell? ⟨b, off + i, none⟩ = some (.int .i64 (zs.getD i 0))) : SlI w (some ⟨b, off, none⟩) n zs :=
 ⟨hl, fun i hi => ⟨b, off, rfl, h i hi⟩⟩
/-- A block of the call's own, read from its beginning. -/
theorem SlI.row {w : World} {b n : Nat} {zs : List Int} {rest : List Value} (h : Row w b (zs.map (Value.int .i64) ++ rest)) (hl : zs.length = n) : SlI w (some ⟨b, 0, none⟩) n zs :=
 SlI.of hl fun i hi => h.cell (0 + i) (by
  rw [Nat.zero_add, List.getElem?_append_left (by simp; omega), List.getElem?_map, List.getElem?_eq_getElem (by omega)]
  simp [List.getD, List.getElem?_eq_getElem (show i < zs.length by omega)])
end Go.Proofs.YtlmajlfhjbhdpaaGreat
