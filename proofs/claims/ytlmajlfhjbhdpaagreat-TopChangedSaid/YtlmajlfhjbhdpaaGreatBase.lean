/-
 Small facts that all walks of this seat use: what is below a block number stays as it was across a callee; equal results.
-/
import Derived.WalkKit
import Derived.WalkSpells
import Derived.WalkLawsBesides
import Derived.Deep.QuietTactic
import Derived.BigQuiet
import Derived.Handy
import Derived.Laws.EntriesVeiled
import Derived.Lib.Hide
namespace Go.Proofs.YtlmajlfhjbhdpaaGreat
set_option linter.unusedSimpArgs false
set_option linter.unusedVariables false
open Go.RowKit
@[simp] theorem size_drewN (w : World) (n : Nat) : (w.drewN n).heap.size = w.heap.size := rfl
/-- Behind a callee of which 'Below' is known. -/
theorem below_step {B : Nat} {a W w1 : World} (h : Below B a W) (hb : Below W.heap.size W w1) (hB : B ≤ W.heap.size) : Below B a w1 :=
 h.trans (hb.mono hB)
theorem bcell {W w1 : World} (hb : Below W.heap.size W w1) : (∀ b o, b < W.heap.size → w1.cell? ⟨b, o, none⟩ = W.cell? ⟨b, o, none⟩) ∧ (∀ b o, b < W.heap.size → w1.frozen? ⟨b, o, none⟩ = W.frozen? ⟨b, o, none⟩) :=
 ⟨fun b o h => hb.cell (p := ⟨b, o, none⟩) h, fun b o h => hb.frozen (p := ⟨b, o, none⟩) h⟩
/-- 'Below' behind a name that no tactic opens. -/
def Bw (B : Nat) (w w' : World) : Prop := Below B w w'
theorem Bw.out {B : Nat} {w w' : World} (h : Bw B w w') : Below B w w' := h
theorem ret_int {k : IntKind} {a b : Int} (h : a = b) : Ending.returned (.int k a) = .returned (.int k b) := by rw [h]
theorem ret_bool {a b : Bool} (h : a = b) : Ending.returned (.bool a) = .returned (.bool b) := by rw [h]
/-- Block b holds the cells cs, and nothing of it is frozen. -/
def Row (w : World) (b : Nat) (cs : List Value) : Prop := ∃ T, w.heap[b]? = some (.cells cs.toArray T (0, 0))
theorem Row.lt {w : World} {b : Nat} {cs : List Value} (h : Row w b cs) : b < w.heap.size := by
 obtain ⟨_, h⟩ := h
 exact (Array.getElem?_eq_some_iff.1 h).1
theorem Row.cell {w : World} {b : Nat} {cs : List Value} (h : Row w b cs) (i : Nat) {v : Value} (hv : cs[i]? = some v) : w.cell? ⟨b, i, none⟩ = some v := by
 obtain ⟨_, h⟩ := h
 simp [World.cell?, h, hv]
theorem Row.frozen {w : World} {b : Nat} {cs : List Value} (h : Row w b cs) (i : Nat) : w.frozen? ⟨b, i, none⟩ = false := by
 obtain ⟨_, h⟩ := h
 simp [World.frozen?, h]
theorem Row.new' {b : Nat} (w : World) (cs : List Value) (T : TypeId) (hb : b = w.heap.size) : Row (w.alloc (.cells cs.toArray T)) b cs := by
 subst hb
 exact ⟨T, by show (w.heap.push _)[w.heap.size]? = _; simp⟩
theorem Row.of_block {w w' : World} {b : Nat} {cs : List Value} (h : Row w b cs) (e : w'.heap[b]? = w.heap[b]?) : Row w' b cs := by
 obtain ⟨T, h⟩ := h
 exact ⟨T, e.trans h⟩
theorem Row.alloc {w : World} {b : Nat} {cs : List Value} (h : Row w b cs) (o : Obj) : Row (w.alloc o) b cs := h.of_block (Below.heap_alloc _ _ _ h.lt)
theorem Row.drew {w : World} {b : Nat} {cs : List Value} (h : Row w b cs) : Row w.drew b cs := h
theorem Row.drewN {w : World} {b : Nat} {cs : List Value} (h : Row w b cs) (n : Nat) : Row (w.drewN n) b cs := h
theorem Row.step {W w1 : World} {b : Nat} {cs : List Value} (h : Row W b cs) (hb : Below W.heap.size W w1) : Row w1 b cs := h.of_block (hb.block b h.lt)
theorem Row.other {w : World} {b : Nat} {cs : List Value} (h : Row w b cs) {a : Addr} (ha : b ≠ a.block) (v : Value) : Row (w.setCell a v) b cs := h.of_block (Below.heap_setCell _ _ _ _ ha)
/-- What was there at the head reads so still. -/
theorem Row.below {w w1 : World} {B b : Nat} {cs : List Value} (h : Row w b cs) (hb : Below B w w1) (hlt : b < B) : Row w1 b cs := h.of_block (hb.block b hlt)
theorem bw_alloc {a W : World} (h : Below a.heap.size a W) (o : Obj) : Below a.heap.size a (W.alloc o) := h.alloc h.size o
theorem bw_step {a W w1 : World} (h : Below a.heap.size a W) (hb : Below W.heap.size W w1) : Below a.heap.size a w1 := h.trans (hb.mono h.size)
end Go.Proofs.YtlmajlfhjbhdpaaGreat
