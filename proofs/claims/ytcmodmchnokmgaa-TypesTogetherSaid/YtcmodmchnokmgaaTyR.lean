/-
  Rates that lie in a block one behind the other.
-/
import Derived.Test.YtcmodmchnokmgaaTyJ
namespace Go.Proofs.Ytcmodmchnokmgaa
set_option linter.unusedSimpArgs false
set_option linter.unusedVariables false
open Go.RowKit

theorem flatR_at : ∀ (l : List RateV) (j : Nat) (x : RateV) (i : Nat), l[j]? = some x → i < 16 → (l.flatMap RateV.cells)[j * 16 + i]? = x.cells[i]?
  | [], j, x, i, h, _ => by simp at h
  | y :: r, 0, x, i, h, hi => by
    simp at h
    subst h
    rw [List.flatMap_cons, List.getElem?_append_left (by simp [RateV.cells]; omega)]
    simp
  | y :: r, j + 1, x, i, h, hi => by
    have ih := flatR_at r j x i (by simpa using h) hi
    rw [List.flatMap_cons, List.getElem?_append_right (by simp [RateV.cells]; omega), ← ih]
    congr 1
    simp [RateV.cells]; omega
theorem slr_row {W : World} {B : Nat} {cs : List Value} (h : Row W B cs) (l : List RateV) (hcs : cs = l.flatMap RateV.cells) (hl : ∀ x ∈ l, x.In W) (n : Nat) (hn : l.length = n) : SlR W (some ⟨B, 0, none⟩) n l := by
  refine ⟨hn, fun i x hx => ⟨hl x (List.mem_of_getElem? hx), B, 0, rfl, fun j v hj => ?_⟩⟩
  have hj16 : j < 16 := (List.getElem?_eq_some_iff.1 hj).1
  refine h.cell _ ?_
  rw [hcs, show 0 + i * 16 + j = i * 16 + j by omega, flatR_at l i x j hx hj16]
  exact hj
theorem slr_new {W : World} (l : List RateV) (cs : Array Value) (T : TypeId) {B : Nat} (hB : B = W.heap.size) (hcs : cs.toList = l.flatMap RateV.cells) (hl : ∀ x ∈ l, x.In W) (n : Nat) (hn : l.length = n) : SlR (W.alloc (.cells cs T)) (some ⟨B, 0, none⟩) n l := by
  subst hB
  have hr : Row (W.alloc (.cells cs T)) W.heap.size cs.toList := by simpa using Row.new' W cs.toList T rfl
  exact slr_row hr l hcs (fun x hx => (hl x hx).step ((Below.refl _ W).alloc (Nat.le_refl _) _)) n hn
theorem valid_ra (l : List RateV) (a : Option Addr) (n cap : Nat) (w : World) (hm : n ≤ 9223372036854775807) (hs : SlR w a n l) (p : Bool) (hp : validR l = p) :
    Calls Try.prog 20 #[.slice a n cap] w fun e w' => e = .returned (.bool p) ∧ Below w.heap.size w w' := by
  subst hp; exact valid_rates a n cap l w hm hs

end Go.Proofs.Ytcmodmchnokmgaa
