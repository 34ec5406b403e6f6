/-
  One cell; more on slices of known length; what a night's shares are.
-/
import Derived.Test.YtijbhdpaikajkaaShareH0
import Derived.Test.YtijbhdpaikajkaaOpen
import Derived.Deep.RegionHeld3
namespace Go.Proofs.Ytijbhdpaikajkaa
set_option linter.unusedSimpArgs false
set_option linter.unusedVariables false
open Go.RowKit

/-- One cell. -/
def CellAt (w : World) (b o : Nat) (v : Value) : Prop := w.cell? ⟨b, o, none⟩ = some v
theorem CellAt.out {w : World} {b o : Nat} {v : Value} (h : CellAt w b o v) : w.cell? ⟨b, o, none⟩ = some v := h
theorem CellAt.drew {w : World} {b o : Nat} {v : Value} (h : CellAt w b o v) : CellAt w.drew b o v := h
theorem CellAt.drewN {w : World} {b o : Nat} {v : Value} (h : CellAt w b o v) (n : Nat) : CellAt (w.drewN n) b o v := h
theorem CellAt.step {w w1 : World} {b o : Nat} {v : Value} (h : CellAt w b o v) (hb : Below w.heap.size w w1) : CellAt w1 b o v := (hb.cell (p := ⟨b, o, none⟩) (World.block_lt_of_cell? w _ h)).trans h
theorem CellAt.alloc {w : World} {b o : Nat} {v : Value} (h : CellAt w b o v) (x : Obj) : CellAt (w.alloc x) b o v := h.step ((Below.refl _ _).alloc (Nat.le_refl _) _)
theorem SlC.drew {w : World} {a : Option Addr} {n c : Nat} {zs : List Int} (h : SlC w a n c zs) : SlC w.drew a n c zs := h
theorem SlC.drewN {w : World} {a : Option Addr} {n c : Nat} {zs : List Int} (h : SlC w a n c zs) (k : Nat) : SlC (w.drewN k) a n c zs := h
theorem SlC.alloc {w : World} {a : Option Addr} {n c : Nat} {zs : List Int} (h : SlC w a n c zs) (x : Obj) : SlC (w.alloc x) a n c zs := h.step ((Below.refl _ _).alloc (Nat.le_refl _) _)
theorem SlC.nil (w : World) : SlC w none 0 0 [] := ⟨rfl, SlV.nil w⟩
theorem SlV.c {w : World} {v : Value} {zs : List Int} (h : SlV w v zs) : ∃ a cap, v = .slice a zs.length cap ∧ zs.length ≤ cap ∧ cap ≤ maxLen ∧ SlC w a zs.length cap zs := by
  obtain ⟨a, cap, rfl, h1, h2, h3⟩ := h
  exact ⟨a, cap, rfl, h2, h3, rfl, a, cap, rfl, h1, h2, h3⟩

theorem shIn_set {zs : List Int} (h : shIn zs) (c : Nat) {x : Int} (hx : 0 ≤ x ∧ x ≤ 400) : shIn (zs.set c x) := by
  intro z hz
  rcases List.mem_or_eq_of_mem_set hz with g | g
  · exact h z g
  · rw [g]; exact hx
theorem sharesB_of {zs : List Int} (h1 : zs.length ≤ 30) (h2 : shIn zs) : sharesB zs = true := by
  unfold sharesB
  rw [decide_eq_true h1, Bool.true_and, Bool.not_eq_true', List.any_eq_false]
  intro z hz
  rw [outB_false (h2 z hz)]
  simp
theorem nightB_of {rooms sold : Int} {zs : List Int} (h1 : zs.length ≤ 30) (h2 : shIn zs) (h3 : 0 ≤ rooms ∧ rooms ≤ 400) (h4 : 0 ≤ sold ∧ sold ≤ 1000) : nightB rooms sold zs = true := by
  unfold nightB
  rw [sharesB_of h1 h2, outB_false h3, outB_false h4]; rfl
theorem getD_set {zs : List Int} {c : Nat} {x : Int} (i : Nat) (hc : c < zs.length) : (zs.set c x).getD i 0 = if i = c then x else zs.getD i 0 := by
  simp only [List.getD_eq_getElem?_getD, List.getElem?_set]
  by_cases h : c = i
  · subst h; simp [hc]
  · simp [h, Ne.symm h]
theorem set_back {zs : List Int} {c : Nat} {x z : Int} (hz : zs.getD c 0 = z) (hc : c < zs.length) : (zs.set c x).set c z = zs := by
  rw [List.set_set]
  refine List.ext_getElem (by simp) (fun i h1 h2 => ?_)
  rw [List.getElem_set]
  split
  · rename_i e
    subst e
    rw [← hz]; simp [List.getD, hc]
  · rfl

end Go.Proofs.Ytijbhdpaikajkaa
