/-
  share.Top with a known number of channels; more on slices of known length.
-/
import Derived.Test.YtijbhdpaikajkaaShareI0
import Derived.Test.YtijbhdpaikajkaaMBase
namespace Go.Proofs.Ytijbhdpaikajkaa
set_option linter.unusedSimpArgs false
set_option linter.unusedVariables false
open Go.ChangeShapes Go.WideShapes Go.ChangeAt Go.RowKit

theorem SlC.take {w : World} {a : Option Addr} {n c : Nat} {zs : List Int} (h : SlC w a n c zs) {m : Nat} (hm : m ≤ n) : SlC w a m c (zs.take m) := by
  obtain ⟨h1, a', c', e, h2, h3, h4⟩ := h
  cases e
  have hl : (zs.take m).length = m := by rw [List.length_take]; omega
  exact ⟨hl, a, c, by rw [hl], by rw [hl]; exact h2.take (by omega), by omega, h4⟩
theorem topL_take (zs : List Int) {k m : Nat} (h : k ≤ m) : (topL zs m).take k = topL zs k := by
  unfold topL; rw [List.take_take, Nat.min_eq_left h]
theorem topL_all {zs : List Int} {k : Nat} (h : zs.length ≤ k) : topL zs k = topAll zs := by
  unfold topL; exact List.take_of_length_le (by rw [topAll_length]; exact h)
theorem topL_getD {zs : List Int} {k i : Nat} (h : i < k) : (topL zs k).getD i 0 = (topAll zs).getD i 0 := by
  unfold topL; simp [List.getD_eq_getElem?_getD, List.getElem?_take, h]

/-- Top, where it is asked rightly, with a known number of channels. -/
theorem top_c (k m : Nat) (c' : Int) (a : Option Addr) (n cap : Nat) (zs : List Int) (w : World) (hs : SlC w a n cap zs) (hc : c' = k) (hk : k ≤ 30) (hb : sharesB zs = true) (hm : min k n = m) (hn : n ≤ 30) :
    Calls Try.prog 47 #[.slice a n cap, .int .i64 c'] w fun e w' => ∃ b d, e = .returned (.tuple #[.int .i64 (topS zs k), .slice b m d, .int .i64 0]) ∧ SlC w' b m d (topL zs k) ∧ Below w.heap.size w w' := by
  subst hc
  refine (top_ok a n cap zs k w (by omega) hs.sl ⟨hb, by omega, by omega⟩).mono ?_
  rintro e w' ⟨v, rfl, hv, hbl⟩
  rw [Int.toNat_natCast] at hv ⊢
  obtain ⟨b, d, rfl, h⟩ := hv.sized m (by rw [topL_length, hs.1]; exact hm)
  exact ⟨b, d, rfl, h, hbl⟩

theorem SlC.le {w : World} {a : Option Addr} {n c : Nat} {zs : List Int} (h : SlC w a n c zs) : n ≤ c := by
  obtain ⟨h1, a', c', e, _, h3, _⟩ := h
  cases e
  omega
theorem SlC.nil0 {w : World} {a : Option Addr} {c : Nat} {zs : List Int} (h : SlC w a 0 c zs) : SlC w a 0 c [] := by
  have : zs = [] := List.eq_nil_of_length_eq_zero h.1
  rwa [this] at h

end Go.Proofs.Ytijbhdpaikajkaa
