/-
 A slice of ints that the call itself has made: what its block holds, and what a store, a draw and a callee do to it.
-/
import Derived.Test.YtlmajlfhjbhdpaaGreatSlice
import Derived.Test.YtlmajlfhjbhdpaaGreatSortA
import Derived.Maps.AppendAt
namespace Go.Proofs.YtlmajlfhjbhdpaaGreat
set_option linter.unusedSimpArgs false
set_option linter.unusedVariables false
open Go.RowKit
/-- Block B holds the ints zs from its beginning on (and maybe more behind them), and nothing of it is frozen. -/
def OwnI (w : World) (B : Nat) (zs : List Int) : Prop := ∃ rest, Row w B (zs.map (Value.int .i64) ++ rest)
theorem OwnI.lt {w : World} {B : Nat} {zs : List Int} (h : OwnI w B zs) : B < w.heap.size := h.elim fun _ h => h.lt
theorem OwnI.cell {w : World} {B : Nat} {zs : List Int} (h : OwnI w B zs) {i : Nat} (hi : i < zs.length) : w.cell? ⟨B, i, none⟩ = some (.int .i64 (zs.getD i 0)) := by
 obtain ⟨rest, h⟩ := h
 refine h.cell i ?_
 rw [List.getElem?_append_left (by simpa using hi), List.getElem?_map, List.getElem?_eq_getElem hi]
 simp [List.getD, hi]
theorem OwnI.frozen {w : World} {B : Nat} {zs : List Int} (h : OwnI w B zs) (i : Nat) : w.frozen? ⟨B, i, none⟩ = false := h.elim fun _ h => h.frozen i
theorem OwnI.set {w : World} {B : Nat} {zs : List Int} (h : OwnI w B zs) {i : Nat} (hi : i < zs.length) (v : Int) : OwnI (w.setCell ⟨B, i, none⟩ (.int .i64 v)) B (zs.set i v) := by
 obtain ⟨rest, T, h⟩ := h
 refine ⟨rest, T, ?_⟩
 simp only [World.setCell, Array.getElem?_modify, h]
 simp [List.map_set, List.set_append, hi]
theorem OwnI.drewN {w : World} {B : Nat} {zs : List Int} (h : OwnI w B zs) (n : Nat) : OwnI (w.drewN n) B zs := h
theorem OwnI.drew {w : World} {B : Nat} {zs : List Int} (h : OwnI w B zs) : OwnI w.drew B zs := h
theorem OwnI.sw {w : World} {B : Nat} {zs : List Int} (h : OwnI w B zs) {i j : Nat} (hi : i < zs.length) (hj : j < zs.length) :
  OwnI ((w.setCell ⟨B, i, none⟩ (.int .i64 (zs.getD j 0))).setCell ⟨B, j, none⟩ (.int .i64 (zs.getD i 0))) B (sw zs i j) :=
 (h.set hi _).set (by simpa using hj) _
theorem OwnI.of_block {w w' : World} {B : Nat} {zs : List Int} (h : OwnI w B zs) (e : w'.heap[B]? = w.heap[B]?) : OwnI w' B zs := h.elim fun r h => ⟨r, h.of_block e⟩
theorem OwnI.step {W w1 : World} {B : Nat} {zs : List Int} (h : OwnI W B zs) (hb : Below W.heap.size W w1) : OwnI w1 B zs := h.of_block (hb.block B h.lt)
theorem OwnI.sl {w : World} {B n : Nat} {zs : List Int} (h : OwnI w B zs) (hl : zs.length = n) : SlI w (some ⟨B, 0, none⟩) n zs := h.elim fun _ h => SlI.row h hl
theorem OwnI.take {w : World} {B : Nat} {zs : List Int} (h : OwnI w B zs) (k : Nat) : OwnI w B (zs.take k) := by
 obtain ⟨rest, h⟩ := h
 refine ⟨(zs.drop k).map (Value.int .i64) ++ rest, ?_⟩
 rwa [← List.append_assoc, ← List.map_append, List.take_append_drop]
/-- Only block B turns (and new blocks may be there). -/
def Tch (B : Nat) (w w' : World) : Prop := w.grownBy w' (some B)
theorem Tch.refl (B : Nat) (w : World) : Tch B w w := World.grownBy.refl w _
theorem Tch.trans {B : Nat} {a b c : World} (h : Tch B a b) (k : Tch B b c) : Tch B a c := World.grownBy.trans h k
theorem Tch.set {B : Nat} {a w : World} (h : Tch B a w) (i : Nat) (v : Value) : Tch B a (w.setCell ⟨B, i, none⟩ v) := by
 refine h.trans ⟨rfl, rfl, rfl, by simp [World.setCell], fun k hk hne => ?_⟩
 exact Below.heap_setCell _ _ _ _ (fun e => hne (by rw [e]))
theorem Tch.drewN {B : Nat} {a w : World} (h : Tch B a w) (n : Nat) : Tch B a (w.drewN n) := h.trans ⟨rfl, rfl, rfl, Nat.le_refl _, fun _ _ _ => rfl⟩
theorem Tch.drew {B : Nat} {a w : World} (h : Tch B a w) : Tch B a w.drew := h.trans ⟨rfl, rfl, rfl, Nat.le_refl _, fun _ _ _ => rfl⟩
theorem Tch.size {B : Nat} {w w' : World} (h : Tch B w w') : w.heap.size ≤ w'.heap.size := World.grownBy.size h
theorem Tch.block {B : Nat} {w w' : World} (h : Tch B w w') {k : Nat} (hk : k < w.heap.size) (hne : k ≠ B) : w'.heap[k]? = w.heap[k]? := World.grownBy.block h k hk (by simpa using hne)
theorem Tch.cell {B : Nat} {w w' : World} (h : Tch B w w') {b o : Nat} {v : Value} (hc : w.cell? ⟨b, o, none⟩ = some v) (hne : b ≠ B) : w'.cell? ⟨b, o, none⟩ = some v := by
 have e := h.block (World.block_lt_of_cell? w _ hc) hne
 rw [← hc]; simp only [World.cell?]; rw [e]
theorem Tch.sl {B n : Nat} {w w' : World} {a : Option Addr} {zs : List Int} (h : Tch B w w') (hs : SlI w a n zs) (hne : ∀ b o, a = some ⟨b, o, none⟩ → b ≠ B) : SlI w' a n zs := by
 refine ⟨hs.1, fun i hi => ?_⟩
 obtain ⟨b, off, ha, hc⟩ := hs.2 i hi
 exact ⟨b, off, ha, h.cell hc (hne _ _ ha)⟩
theorem Tch.below {B B0 : Nat} {a w w' : World} (h : Tch B w w') (hb : Below B0 a w) (hB : B0 ≤ B) (hs : B0 ≤ w.heap.size) : Below B0 a w' := hb.grown h hs (fun k e => by cases e; exact hB)
end Go.Proofs.YtlmajlfhjbhdpaaGreat
