/-
  A slice of slices of ints; what one among the arguments holds.
-/
import Derived.Test.YtijbhdpaikajkaaOpenN
import Derived.Test.YtijbhdpaikajkaaShareI0
namespace Go.Proofs.Ytijbhdpaikajkaa
set_option linter.unusedSimpArgs false
set_option linter.unusedVariables false
open Go.ChangeShapes Go.WideShapes Go.ChangeAt Go.RowKit Go.Deep

structure ListV where
  at' : Option Addr
  n : Nat
  cap : Nat
  zs : List Int
/-- The slice at a holds n slices of ints, l. -/
def SlL (w : World) (a : Option Addr) (n : Nat) (l : List ListV) : Prop := l.length = n ∧ ∀ i x, l[i]? = some x → SlC w x.at' x.n x.cap x.zs ∧ ∃ b off, a = some ⟨b, off, none⟩ ∧ w.cell? ⟨b, off + i, none⟩ = some (.slice x.at' x.n x.cap)
theorem SlL.nil (w : World) (a : Option Addr) : SlL w a 0 [] := ⟨rfl, fun i x h => by simp at h⟩
theorem SlL.below {w w1 : World} {a : Option Addr} {n : Nat} {l : List ListV} (h : SlL w a n l) (hb : Below w.heap.size w w1) : SlL w1 a n l := by
  refine ⟨h.1, fun i x hx => ?_⟩
  obtain ⟨hc, b, off, e, h1⟩ := h.2 i x hx
  exact ⟨hc.step hb, b, off, e, (hb.cell (p := ⟨b, off + i, none⟩) (World.block_lt_of_cell? w _ h1)).trans h1⟩
theorem SlL.get {w : World} {a : Option Addr} {n : Nat} {l : List ListV} (h : SlL w a n l) {i : Nat} (hi : i < n) :
    ∃ x b off, l[i]? = some x ∧ a = some ⟨b, off, none⟩ ∧ b < w.heap.size ∧ SlC w x.at' x.n x.cap x.zs ∧ w.cell? ⟨b, off + i, none⟩ = some (.slice x.at' x.n x.cap) := by
  have hl : i < l.length := by rw [h.1]; exact hi
  obtain ⟨hc, b, off, e, h1⟩ := h.2 i _ (List.getElem?_eq_getElem hl)
  exact ⟨_, b, off, List.getElem?_eq_getElem hl, e, World.block_lt_of_cell? w _ h1, hc, h1⟩

/-- The bounds that Go's types give. -/
def ListWf (x : ListV) : Prop := ∀ z ∈ x.zs, -9223372036854775808 ≤ z ∧ z ≤ 9223372036854775807

theorem cells_ints : Try.prog.cellsOf 22 = 1 := by kernel_rfl
theorem sll_of_lists {H : Type} {enc : TypeId × Value → H} {w : World} {fuel : Nat} {v : Value} {x : DataW H × List MemPlace} (h : DataW.trod enc Try.prog w 0 (fun _ => true) true fuel 26 [v] = some x) :
    ∃ a n cap l, v = .slice a n cap ∧ n ≤ cap ∧ cap ≤ maxLen ∧ SlL w a n l ∧ ∀ x ∈ l, ListWf x := by
  rcases open_slice Try.underlying26 h with ⟨hcs, _⟩ | ⟨a, len, cap, m, n, D, Pl, hcs, _, hl, hm, hmm, _, hi⟩
  · simp only [List.cons.injEq, and_true] at hcs
    subst hcs
    exact ⟨none, 0, 0, [], rfl, Nat.le_refl _, by unfold maxLen; omega, SlL.nil _ _, fun x hx => by simp at hx⟩
  · simp only [List.cons.injEq, and_true] at hcs
    subst hcs
    simp only [if_true] at hmm
    have hf : ∀ i, i < len → ∃ (u : Value) (y : DataW H × List MemPlace), w.cell? (a.add i) = some u ∧ DataW.trod enc Try.prog w 0 (fun _ => true) true n 22 [u] = some y := fun i hil => by
      obtain ⟨cs', hc, ht'⟩ := hi i (by omega)
      rw [cells_ints] at hc
      obtain ⟨_, hcl, hat⟩ := World.cells?_some hc
      have h0 := hat 0 (by omega)
      match cs', hcl with
      | [u], _ =>
        refine ⟨u, _, ?_, ht'⟩
        rw [Nat.mul_one, show (a.add i).add 0 = a.add i by simp [Addr.add]] at h0
        simpa using h0
    obtain ⟨l, hll, hp⟩ := choose_list (p := fun i (x : ListV) => (SlC w x.at' x.n x.cap x.zs ∧ ∃ b off, some a = some ⟨b, off, none⟩ ∧ w.cell? ⟨b, off + i, none⟩ = some (.slice x.at' x.n x.cap)) ∧ ListWf x) len (fun i hil => by
      obtain ⟨u, y, c0, t0⟩ := hf i hil
      obtain ⟨u0, y0, c00, _⟩ := hf 0 (by omega)
      obtain ⟨zs, hz, wz⟩ := slv_of_ints t0
      obtain ⟨ad, cp, rfl, hz1, hz2, hz3⟩ := hz
      have ha := addr_plain c00
      refine ⟨⟨ad, zs.length, cp, zs⟩, ⟨⟨rfl, ad, cp, rfl, hz1, hz2, hz3⟩, a.block, a.off, by rw [← ha], ?_⟩, wz⟩
      rw [ha, add_plain] at c0; exact c0)
    exact ⟨some a, len, cap, l, rfl, hl, hm, ⟨hll, fun i x hx => (hp i x hx).1⟩, fun x hx => by
      obtain ⟨i, hi, he⟩ := List.getElem_of_mem hx
      exact (hp i x (by rw [List.getElem?_eq_getElem hi, he])).2⟩

end Go.Proofs.Ytijbhdpaikajkaa
