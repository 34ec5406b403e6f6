/-
 What stands behind a store of a whole rate into another block.
-/
import Derived.Test.YtcmodmchnokmgaaLdR
namespace Go.Proofs.Ytcmodmchnokmgaa
set_option linter.unusedSimpArgs false
set_option linter.unusedVariables false
open Go.RowKit
theorem puz_heap (b : Nat) : ∀ (vs : List Value) (o : Nat) (w : World) (c : Nat), c ≠ b → (Go.Proofs.Ytcmodmchnokmgaa.puz w b o vs).heap[c]? = w.heap[c]?
 | [], _, _, _, _ => rfl
 | v :: r, o, w, c, h => by
  unfold Go.Proofs.Ytcmodmchnokmgaa.puz
  rw [puz_heap b r (o + 1) _ c h]
  exact Below.heap_setCell _ _ _ _ h
theorem puz_size (b : Nat) : ∀ (vs : List Value) (o : Nat) (w : World), (Go.Proofs.Ytcmodmchnokmgaa.puz w b o vs).heap.size = w.heap.size
 | [], _, _ => rfl
 | v :: r, o, w => by
  unfold Go.Proofs.Ytcmodmchnokmgaa.puz
  rw [puz_size b r (o + 1) _]
  simp [World.setCell]
theorem stW_heap (w : World) (b o : Nat) (vs : Array Value) (c : Nat) (h : c ≠ b) : (stW w (.pointer (some ⟨b, o, none⟩)) (.agg vs)).heap[c]? = w.heap[c]? := puz_heap b _ o w c h
theorem stW_size (w : World) (b o : Nat) (vs : Array Value) : (stW w (.pointer (some ⟨b, o, none⟩)) (.agg vs)).heap.size = w.heap.size := puz_size b _ o w
theorem stW_cell (w : World) (b o : Nat) (vs : Array Value) (c j : Nat) (h : c ≠ b) : (stW w (.pointer (some ⟨b, o, none⟩)) (.agg vs)).cell? ⟨c, j, none⟩ = w.cell? ⟨c, j, none⟩ := by
 simp only [World.cell?, stW_heap w b o vs c h]
theorem stW_frozen (w : World) (b o : Nat) (vs : Array Value) (c j : Nat) (h : c ≠ b) : (stW w (.pointer (some ⟨b, o, none⟩)) (.agg vs)).frozen? ⟨c, j, none⟩ = w.frozen? ⟨c, j, none⟩ := by
 simp only [World.frozen?, stW_heap w b o vs c h]
theorem ldV_stW (w : World) (b o : Nat) (vs : Array Value) (c j : Nat) (h : c ≠ b) : ldV (stW w (.pointer (some ⟨b, o, none⟩)) (.agg vs)) (.pointer (some ⟨c, j, none⟩)) = ldV w (.pointer (some ⟨c, j, none⟩)) := by
 have hc : ∀ i, (stW w (.pointer (some ⟨b, o, none⟩)) (.agg vs)).cell? ⟨c, j + i, none⟩ = w.cell? ⟨c, j + i, none⟩ := fun i => stW_cell w b o vs c (j + i) h
 unfold ldV
 simp only [hc]
theorem stB_stW (w : World) (b o : Nat) (vs : Array Value) (c j : Nat) (h : c ≠ b) : stB (stW w (.pointer (some ⟨b, o, none⟩)) (.agg vs)) (.pointer (some ⟨c, j, none⟩)) = stB w (.pointer (some ⟨c, j, none⟩)) := by
 unfold stB
 simp only [World.cell?, World.frozen?, stW_heap w b o vs c h]
/-- Three results that lie in cells. -/
theorem results_cell3 {P : Program} {fn : Func} {p q r : Tmp} {t1 t2 t3 : TypeId} (h : fn.results = #[.cell p t1, .cell q t2, .cell r t3]) (tmps : Array Value) (w : World) {a1 a2 a3 : Addr} {v1 v2 v3 : Value}
  (h1 : tmps.getD p undef = .pointer (some a1)) (h2 : tmps.getD q undef = .pointer (some a2)) (h3 : tmps.getD r undef = .pointer (some a3))
  (l1 : (loadVar t1 a1).run P w = .ok v1 w) (l2 : (loadVar t2 a2).run P w = .ok v2 w) (l3 : (loadVar t3 a3).run P w = .ok v3 w) : (results fn tmps).run P w = .ok (.tuple #[v1, v2, v3]) w := by
 have h1' : tmps[p]?.getD undef = .pointer (some a1) := by simpa using h1
 have h2' : tmps[q]?.getD undef = .pointer (some a2) := by simpa using h2
 have h3' : tmps[r]?.getD undef = .pointer (some a3) := by simpa using h3
 simp [results, h, h1', h2', h3', asAddr, l1, l2, l3]
theorem loadVar_rate {w : World} {b : Nat} {cs : List Value} (h : Row w b cs) (hl : cs.length = 16) : (loadVar 30 ⟨b, 0, none⟩).run Try.prog w = .ok (.agg cs.toArray) w :=
 run_loadVar_mid w b 0 30 cs _ (fun j v hj => by rw [Nat.zero_add]; exact h.cell j hj) Try.underlying30 rfl (by rw [hl]; kernel_rfl)
theorem loadVar_int {w : World} {b : Nat} {v : Value} (h : Row w b [v]) : (loadVar 3 ⟨b, 0, none⟩).run Try.prog w = .ok v w := by
 have a1 := h.cell 0 rfl
 simp [go_sem, a1]
theorem loadVar_err {w : World} {b : Nat} {v : Value} (h : Row w b [v]) : (loadVar 35 ⟨b, 0, none⟩).run Try.prog w = .ok v w := by
 have a1 := h.cell 0 rfl
 simp [go_sem, a1]
end Go.Proofs.Ytcmodmchnokmgaa
