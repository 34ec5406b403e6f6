/-
  Contracts of package colour's functions in short words, for the laws' walks.
-/
import Derived.Test.YtbafhmlmibjgpaaColL
import Derived.Test.YtbafhmlmibjgpaaOpenS
namespace Go.Proofs.Ytbafhmlmibjgpaa
set_option linter.unusedSimpArgs false
set_option linter.unusedVariables false
open Go.RowKit

theorem usS_in {l : List SpV} (h : usS l = true) : l.length ≤ 100 ∧ chkE l = 0 ∧ OkS l := by
  unfold usS at h
  simp only [Bool.and_eq_true, decide_eq_true_eq] at h
  exact ⟨h.1, h.2, (chkE_ok h.2).1⟩
theorem usable_c (a : Option Addr) (n cap : Nat) (l : List SpV) (w : World) (hm : n ≤ 9223372036854775807) (hs : SlP w a n l) (b : Bool) (hb : usS l = b) :
    Calls Try.prog 18 #[.slice a n cap] w fun e w' => e = .returned (.bool b) ∧ Below w.heap.size w w' := by
  rw [← hb]; exact usable_any a n cap l w hm hs
theorem Colours_c (a : Option Addr) (n cap : Nat) (l : List SpV) (w : World) (hm : n ≤ 3000) (hs : SlP w a n l) (hE : chkE l = 0) (M : Nat) (hM : (colE l).length = M) :
    Calls Try.prog 11 #[.slice a n cap] w fun e w' => ∃ ad cp, e = .returned (.tuple #[.slice ad n cp, .int .i64 M, .int .i64 0]) ∧ SlV w' (.slice ad n cp) (colO l) ∧ Below w.heap.size w w' := by
  have hl := hs.1
  refine (Colours_ok a n cap l w hm hs hE).mono ?_
  rintro e w' ⟨v, rfl, hv, hb⟩
  obtain ⟨ad, cp, rfl, h⟩ := hv.sl.form (m := n) (by rw [colO_length (chkE_ok hE).1, hl])
  exact ⟨ad, cp, by rw [hM], h, hb⟩
theorem Clique_c (a : Option Addr) (n cap : Nat) (l : List SpV) (w : World) (hm : n ≤ 3000) (hs : SlP w a n l) (hE : chkE l = 0) (t : Int) (ht : (clqL l).1 = t) (M : Nat) (hM : (colE l).length = M) :
    Calls Try.prog 14 #[.slice a n cap] w fun e w' => ∃ ad cp, e = .returned (.tuple #[.slice ad M cp, .int .i64 t, .int .i64 0]) ∧ SlV w' (.slice ad M cp) (onL l t) ∧ Below w.heap.size w w' := by
  subst ht
  refine (Clique_ok a n cap l w hm hs hE).mono ?_
  rintro e w' ⟨v, rfl, hv, hb⟩
  obtain ⟨ad, cp, rfl, h⟩ := hv.form (m := M) (by rw [← hM]; exact (col_clq (chkE_ok hE).1).2)
  exact ⟨ad, cp, rfl, h, hb⟩
theorem SlV.sli {w : World} {ad : Option Addr} {m cp : Nat} {zs : List Int} (h : SlV w (.slice ad m cp) zs) : SlI w ad m zs ∧ m ≤ cp ∧ cp ≤ maxLen := by
  obtain ⟨b, d, e, h1, h2, h3⟩ := h
  simp only [Value.slice.injEq] at e
  obtain ⟨rfl, rfl, rfl⟩ := e
  exact ⟨h1, h2, h3⟩
theorem height_c (a : Option Addr) (n cap : Nat) (l : List SpV) (t : Int) (w : World) (hm : n ≤ 1000000) (hs : SlP w a n l) (c : Nat) (hc : cntP l t = c) :
    Calls Try.prog 20 #[.slice a n cap, .int .i64 t] w fun e w' => e = .returned (.int .i64 c) ∧ Below w.heap.size w w' := by
  subst hc; exact height_any a n cap l t w hm hs
theorem SlP.cap {w : World} {a : Option Addr} {n cap : Nat} {l : List SpV} (h : SlP w a n l ∧ n ≤ cap ∧ cap ≤ maxLen) : n ≤ 9223372036854775807 := by
  have := h.2.1; have := h.2.2; unfold maxLen at this; omega

end Go.Proofs.Ytbafhmlmibjgpaa
