/-
  Slice values of known length that hold ints; contracts of SameInts and Same at them.
-/
import Derived.Test.YtijbhdpaikajkaaShareF
namespace Go.Proofs.Ytijbhdpaikajkaa
set_option linter.unusedSimpArgs false
set_option linter.unusedVariables false
open Go.RowKit

/-- A slice value of known length that holds the ints zs. -/
def SlC (w : World) (a : Option Addr) (n cap : Nat) (zs : List Int) : Prop := zs.length = n ∧ SlV w (.slice a n cap) zs
theorem SlC.step {w w1 : World} {a : Option Addr} {n cap : Nat} {zs : List Int} (h : SlC w a n cap zs) (hb : Below w.heap.size w w1) : SlC w1 a n cap zs := ⟨h.1, h.2.step hb⟩
theorem SlV.sized {w : World} {v : Value} {zs : List Int} (h : SlV w v zs) (n : Nat) (hn : zs.length = n) : ∃ a cap, v = .slice a n cap ∧ SlC w a n cap zs := by
  subst hn
  obtain ⟨a, cap, rfl, h1, h2⟩ := h
  exact ⟨a, cap, rfl, rfl, a, cap, rfl, h1, h2⟩
theorem Row.slc {w : World} {B n : Nat} {cs : List Value} {zs : List Int} (h : Row w B cs) (e : cs = zs.map (Value.int .i64)) (hn : zs.length = n) (hm : n ≤ 1000000) : SlC w (some ⟨B, 0, none⟩) n n zs := by
  subst e hn
  exact ⟨rfl, _, _, rfl, SlI.row (rest := []) (by simpa using h) rfl, Nat.le_refl _, by unfold maxLen; omega⟩
theorem SlC.sl {w : World} {a : Option Addr} {n cap : Nat} {zs : List Int} (h : SlC w a n cap zs) : SlI w a n zs := by
  obtain ⟨rfl, a', c', e, h1, _⟩ := h
  cases e
  exact h1
theorem SlC.v {w : World} {a : Option Addr} {n cap : Nat} {zs : List Int} (h : SlC w a n cap zs) : SlV w (.slice a n cap) zs := h.2

theorem R_same_c (r1 s1 r2 s2 : Int) (a b : Option Addr) (n m c d : Nat) (zs ys : List Int) (B : Bool) (w : World) (hs : SlC w a n c zs) (ht : SlC w b m d ys) (hB : sameB r1 s1 zs r2 s2 ys = B) :
    Calls Try.prog 28 #[.agg #[.int .i64 r1, .int .i64 s1, .slice a n c], .agg #[.int .i64 r2, .int .i64 s2, .slice b m d]] w fun e w' => e = .returned (.bool B) ∧ Below w.heap.size w w' := by
  rw [← hB]
  exact R_same r1 s1 r2 s2 _ _ zs ys w hs.v ht.v
theorem R_sameInts_c (a b : Option Addr) (n m c d : Nat) (zs ys : List Int) (B : Bool) (w : World) (hs : SlC w a n c zs) (ht : SlC w b m d ys) (hB : decide (zs = ys) = B) :
    Calls Try.prog 16 #[.slice a n c, .slice b m d] w fun e w' => e = .returned (.bool B) ∧ Below w.heap.size w w' := by
  rw [← hB]
  exact R_sameInts _ _ zs ys w hs.v ht.v

end Go.Proofs.Ytijbhdpaikajkaa
