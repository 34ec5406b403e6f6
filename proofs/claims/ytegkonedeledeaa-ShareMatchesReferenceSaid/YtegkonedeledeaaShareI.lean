/-
  Contracts of Sell and Grant by their outcome, for the statements.
-/
import Derived.Test.YtegkonedeledeaaShareH
import Derived.Test.YtegkonedeledeaaOpen
import Derived.Deep.RegionHeld3
namespace Go.Proofs.Ytegkonedeledeaa
set_option linter.unusedSimpArgs false
set_option linter.unusedVariables false
open Go.RowKit

/-- One cell. -/
def CellAt (w : World) (b o : Nat) (v : Value) : Prop := w.cell? ⟨b, o, none⟩ = some v
theorem CellAt.out {w : World} {b o : Nat} {v : Value} (h : CellAt w b o v) : w.cell? ⟨b, o, none⟩ = some v := h
theorem CellAt.drew {w : World} {b o : Nat} {v : Value} (h : CellAt w b o v) : CellAt w.drew b o v := h
theorem CellAt.drewN {w : World} {b o : Nat} {v : Value} (h : CellAt w b o v) (n : Nat) : CellAt (w.drewN n) b o v := h
theorem CellAt.step {w w1 : World} {b o : Nat} {v : Value} (h : CellAt w b o v) (hb : Below w.heap.size w w1) : CellAt w1 b o v := (hb.cell (p := ⟨b, o, none⟩) (World.block_lt_of_cell? w _ h)).trans h
theorem CellAt.alloc {w : World} {b o : Nat} {v : Value} (h : CellAt w b o v) (x : Obj) : CellAt (w.alloc x) b o v := h.step ((Below.refl _ _).alloc (Nat.le_refl _) _)
theorem SlC.drew {w : World} {a : Option Addr} {n c : Nat} {zs : List Int} (h : SlC w a n c zs) : SlC w.drew a n c zs := h
theorem SlC.drewN {w : World} {a : Option Addr} {n c : Nat} {zs : List Int} (h : SlC w a n c zs) (k : Nat) : SlC (w.drewN k) a n c zs := h
theorem SlC.alloc {w : World} {a : Option Addr} {n c : Nat} {zs : List Int} (h : SlC w a n c zs) (x : Obj) : SlC (w.alloc x) a n c zs := h.step ((Below.refl _ _).alloc (Nat.le_refl _) _)
theorem SlC.nil (w : World) : SlC w none 0 0 [] := ⟨rfl, SlV.nil w⟩
theorem SlV.c {w : World} {v : Value} {zs : List Int} (h : SlV w v zs) : ∃ a cap, v = .slice a zs.length cap ∧ zs.length ≤ cap ∧ cap ≤ maxLen ∧ SlC w a zs.length cap zs := by
  obtain ⟨a, cap, rfl, h1, h2, h3⟩ := h
  exact ⟨a, cap, rfl, h2, h3, rfl, a, cap, rfl, h1, h2, h3⟩

theorem grant_err (rooms sold ch r x : Int) (a : Option Addr) (n cap : Nat) (zs : List Int) (w : World) (hs : SlC w a n cap zs) (hr : -9223372036854775808 ≤ r ∧ r ≤ 9223372036854775807) (h : grE rooms sold zs ch r = x) (hx : x ≠ 0) :
    Calls Try.prog 25 #[.agg #[.int .i64 rooms, .int .i64 sold, .slice a n cap], .int .i64 ch, .int .i64 r] w
      fun e w' => ∃ b c, e = .returned (.tuple #[.agg #[.int .i64 0, .int .i64 0, .slice b 0 c], .int .i64 x]) ∧ SlC w' b 0 c [] ∧ Below w.heap.size w w' := by
  refine (grant_any rooms sold ch r _ zs w hs.v hr).mono ?_
  rintro e w' ⟨v, rfl, hv, _, hb⟩
  rw [h] at hv ⊢
  rw [show grZ x zs ch r = [] from if_neg hx] at hv
  obtain ⟨b, c, rfl, h⟩ := hv.sized 0 rfl
  exact ⟨b, c, by rw [show seR x rooms = 0 from if_neg hx, show seR x sold = 0 from if_neg hx], h, hb⟩
theorem grant_ok (rooms sold r z : Int) (c : Nat) (a : Option Addr) (n cap : Nat) (zs : List Int) (w : World) (hs : SlC w a n cap zs) (hr : -9223372036854775808 ≤ r ∧ r ≤ 9223372036854775807) (hz : zs.getD c 0 = z) (h : grE rooms sold zs c r = 0) :
    Calls Try.prog 25 #[.agg #[.int .i64 rooms, .int .i64 sold, .slice a n cap], .int .i64 c, .int .i64 r] w
      fun e w' => ∃ b d, e = .returned (.tuple #[.agg #[.int .i64 rooms, .int .i64 sold, .slice b n d], .int .i64 0]) ∧ SlC w' b n d (zs.set c (z + r)) ∧ Below w.heap.size w w' := by
  refine (grant_any rooms sold c r _ zs w hs.v hr).mono ?_
  rintro e w' ⟨v, rfl, hv, _, hb⟩
  rw [h] at hv ⊢
  rw [show grZ 0 zs c r = zs.set c (z + r) by unfold grZ; rw [if_pos rfl, Int.toNat_natCast, hz]] at hv
  obtain ⟨b, d, rfl, h⟩ := hv.sized n (by rw [List.length_set]; exact hs.1)
  exact ⟨b, d, rfl, h, hb⟩
theorem grE_or (rooms sold : Int) (zs : List Int) (ch r : Int) : grE rooms sold zs ch r = 0 ∨ grE rooms sold zs ch r = 1 ∨ grE rooms sold zs ch r = 3 := by unfold grE; split <;> (try split) <;> simp
theorem grE_ok {rooms sold : Int} {zs : List Int} {ch r : Int} (h : grE rooms sold zs ch r = 0) :
    nightB rooms sold zs = true ∧ (0 ≤ ch ∧ ch < zs.length) ∧ (-400 ≤ r ∧ r ≤ 400) ∧ 0 ≤ zs.getD ch.toNat 0 + r ∧ zs.getD ch.toNat 0 + r ≤ 400 := by
  unfold grE at h
  split at h
  · rename_i h1
    split at h
    · rename_i h2
      exact ⟨h1.1, h1.2.1, h1.2.2, h2⟩
    · omega
  · omega
theorem grE_of {rooms sold : Int} {zs : List Int} {ch r : Int} (h1 : nightB rooms sold zs = true) (h2 : 0 ≤ ch ∧ ch < zs.length) (h3 : -400 ≤ r ∧ r ≤ 400) (h4 : 0 ≤ zs.getD ch.toNat 0 + r ∧ zs.getD ch.toNat 0 + r ≤ 400) : grE rooms sold zs ch r = 0 := by
  unfold grE
  rw [if_pos ⟨h1, h2, h3⟩, if_pos h4]
theorem shIn_set {zs : List Int} (h : shIn zs) (c : Nat) {x : Int} (hx : 0 ≤ x ∧ x ≤ 400) : shIn (zs.set c x) := by
  intro z hz
  rcases List.mem_or_eq_of_mem_set hz with g | g
  · exact h z g
  · rw [g]; exact hx
theorem sharesB_of {zs : List Int} (h1 : zs.length ≤ 30) (h2 : shIn zs) : sharesB zs = true := by
  unfold sharesB
  rw [decide_eq_true h1, Bool.true_and, Bool.not_eq_true', List.any_eq_false]
  intro z hz
  rw [outB_false (h2 z hz)]
  simp
theorem nightB_of {rooms sold : Int} {zs : List Int} (h1 : zs.length ≤ 30) (h2 : shIn zs) (h3 : 0 ≤ rooms ∧ rooms ≤ 400) (h4 : 0 ≤ sold ∧ sold ≤ 1000) : nightB rooms sold zs = true := by
  unfold nightB
  rw [sharesB_of h1 h2, outB_false h3, outB_false h4]; rfl
theorem getD_set {zs : List Int} {c : Nat} {x : Int} (i : Nat) (hc : c < zs.length) : (zs.set c x).getD i 0 = if i = c then x else zs.getD i 0 := by
  simp only [List.getD_eq_getElem?_getD, List.getElem?_set]
  by_cases h : c = i
  · subst h; simp [hc]
  · simp [h, Ne.symm h]
theorem set_back {zs : List Int} {c : Nat} {x z : Int} (hz : zs.getD c 0 = z) (hc : c < zs.length) : (zs.set c x).set c z = zs := by
  rw [List.set_set]
  refine List.ext_getElem (by simp) (fun i h1 h2 => ?_)
  rw [List.getElem_set]
  split
  · rename_i e
    subst e
    rw [← hz]; simp [List.getD, hc]
  · rfl

end Go.Proofs.Ytegkonedeledeaa
