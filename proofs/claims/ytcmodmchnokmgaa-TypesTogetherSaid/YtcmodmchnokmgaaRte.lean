/-
  Rates in memory.
-/
import Derived.Test.YtcmodmchnokmgaaExp
namespace Go.Proofs.Ytcmodmchnokmgaa
set_option linter.unusedSimpArgs false
set_option linter.unusedVariables false
open Go.RowKit

def I64 (n : Int) : Prop := -9223372036854775808 ≤ n ∧ n ≤ 9223372036854775807
mutual
def Ex.Wf : Ex → Prop | .node op n _ _ ks => (I64 op ∧ I64 n) ∧ ExWf ks
def ExWf : List Ex → Prop
  | [] => True
  | x :: r => x.Wf ∧ ExWf r
end
theorem Ex.Wf.head {x : Ex} (h : x.Wf) : I64 x.op ∧ I64 x.n := by cases x; unfold Ex.Wf at h; exact h.1
theorem ExWf.get : ∀ {l : List Ex} {j : Nat} {x : Ex}, ExWf l → l[j]? = some x → x.Wf
  | [], _, _, _, h => by simp at h
  | y :: r, 0, x, h, hx => by
    simp at hx
    subst hx
    unfold ExWf at h
    exact h.1
  | y :: r, j + 1, x, h, hx => by
    unfold ExWf at h
    exact ExWf.get h.2 (j := j) (by simpa using hx)
theorem ExWf.of : ∀ {l : List Ex}, (∀ x ∈ l, x.Wf) → ExWf l
  | [], _ => by unfold ExWf; trivial
  | y :: r, h => by
    unfold ExWf
    exact ⟨h y (by simp), ExWf.of (fun x hx => h x (by simp [hx]))⟩
theorem Ex.Wf.kids {x : Ex} (h : x.Wf) : ExWf x.ks := by cases x; unfold Ex.Wf at h; exact h.2

/-- A rate. -/
structure RateV where
  id : Int
  lv : Int
  kd : Int
  fr : Int
  un : Int
  ls : Int
  ms : Int
  ar : Int
  kn : Int
  kk : Int
  wh : Ex
  pr : Ex
def RateV.cells (x : RateV) : List Value := [.int .i64 x.id, .int .i64 x.lv, .int .i64 x.kd, .int .i64 x.fr, .int .i64 x.un, .int .i64 x.ls, .int .i64 x.ms, .int .i64 x.ar, .int .i64 x.kn, .int .i64 x.kk,
  .int .i64 x.wh.op, .int .i64 x.wh.n, .slice x.wh.at' x.wh.ks.length x.wh.cap, .int .i64 x.pr.op, .int .i64 x.pr.n, .slice x.pr.at' x.pr.ks.length x.pr.cap]
def RateV.val (x : RateV) : Value := .agg #[.int .i64 x.id, .int .i64 x.lv, .int .i64 x.kd, .int .i64 x.fr, .int .i64 x.un, .int .i64 x.ls, .int .i64 x.ms, .int .i64 x.ar, .int .i64 x.kn, .int .i64 x.kk,
  .int .i64 x.wh.op, .int .i64 x.wh.n, .slice x.wh.at' x.wh.ks.length x.wh.cap, .int .i64 x.pr.op, .int .i64 x.pr.n, .slice x.pr.at' x.pr.ks.length x.pr.cap]
def RateV.In (w : World) (x : RateV) : Prop := x.wh.In w ∧ x.pr.In w
def RateV.Wf (x : RateV) : Prop := (I64 x.id ∧ I64 x.lv ∧ I64 x.kd ∧ I64 x.fr ∧ I64 x.un ∧ I64 x.ls ∧ I64 x.ms ∧ I64 x.ar ∧ I64 x.kn ∧ I64 x.kk) ∧ x.wh.Wf ∧ x.pr.Wf
theorem RateV.In.step {w w1 : World} {x : RateV} (h : x.In w) (hb : Below w.heap.size w w1) : x.In w1 := ⟨Ex.In.step hb h.1, Ex.In.step hb h.2⟩

/-- The slice at a holds the rates l. -/
def SlR (w : World) (a : Option Addr) (n : Nat) (l : List RateV) : Prop :=
  l.length = n ∧ ∀ i x, l[i]? = some x → x.In w ∧ ∃ b off, a = some ⟨b, off, none⟩ ∧ ∀ j v, x.cells[j]? = some v → w.cell? ⟨b, off + i * 16 + j, none⟩ = some v
theorem SlR.nil (w : World) (a : Option Addr) : SlR w a 0 [] := ⟨rfl, fun i x h => by simp at h⟩
theorem SlR.step {w w1 : World} {a : Option Addr} {n : Nat} {l : List RateV} (h : SlR w a n l) (hb : Below w.heap.size w w1) : SlR w1 a n l := by
  refine ⟨h.1, fun i x hx => ?_⟩
  obtain ⟨hi, b, off, ha, h1⟩ := h.2 i x hx
  exact ⟨hi.step hb, b, off, ha, fun j v hj => (hb.cell (p := ⟨b, off + i * 16 + j, none⟩) (World.block_lt_of_cell? w _ (h1 j v hj))).trans (h1 j v hj)⟩
theorem SlR.get {w : World} {a : Option Addr} {n : Nat} {l : List RateV} (h : SlR w a n l) {i : Nat} (hi : i < n) :
    ∃ (x : RateV) (b off : Nat), Hid (l[i]? = some x) ∧ a = some ⟨b, off, none⟩ ∧ b < w.heap.size ∧ Hid (x.In w) ∧ Hid (∀ j v, x.cells[j]? = some v → w.cell? ⟨b, off + i * 16 + j, none⟩ = some v) := by
  have hl := h.1
  have hx : l[i]? = some (l[i]'(by omega)) := List.getElem?_eq_getElem (by omega)
  obtain ⟨hin, b, off, ha, h1⟩ := h.2 i _ hx
  exact ⟨_, b, off, hx, ha, World.block_lt_of_cell? w _ (h1 0 _ rfl), hin, h1⟩

end Go.Proofs.Ytcmodmchnokmgaa
