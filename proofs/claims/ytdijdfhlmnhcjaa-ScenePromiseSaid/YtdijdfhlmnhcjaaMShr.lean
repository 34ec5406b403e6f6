/-
  Texts built as one: XShareC, XShareD, XShareF, XShareH0, XShareI0, XMore0.
-/
import Derived.Test.YtdijdfhlmnhcjaaMTop
import Derived.Test.YtdijdfhlmnhcjaaBase2
import Derived.IntWalk
import Derived.Deep.DeepCutAuto
import Derived.Test.YtdijdfhlmnhcjaaShareB
import Derived.Test.YtdijdfhlmnhcjaaOpen
import Derived.Deep.RegionHeld3
import Derived.Test.YtdijdfhlmnhcjaaMPl
namespace Go.Proofs.Ytdijdfhlmnhcjaa

section
set_option linter.unusedSimpArgs false
set_option linter.unusedVariables false
open Go.RowKit
theorem SlI.drop {w : World} {b off n : Nat} {zs : List Int} (h : SlI w (some ⟨b, off, none⟩) n zs) (k : Nat) : SlI w (some ⟨b, off + k, none⟩) (n - k) (zs.drop k) := by
  refine ⟨by rw [List.length_drop, h.1], fun i hi => ?_⟩
  obtain ⟨b', off', e, hc⟩ := h.2 (k + i) (by omega)
  cases e
  refine ⟨b, off + k, rfl, ?_⟩
  rw [Nat.add_assoc, hc]
  simp [List.getD_eq_getElem?_getD, List.getElem?_drop]
theorem SlI.take {w : World} {a : Option Addr} {n : Nat} {zs : List Int} (h : SlI w a n zs) {k : Nat} (hk : k ≤ n) : SlI w a k (zs.take k) := by
  have hl := h.1
  refine ⟨by rw [List.length_take]; omega, fun i hi => ?_⟩
  obtain ⟨b', off', e, hc⟩ := h.2 i (by omega)
  refine ⟨b', off', e, ?_⟩
  rw [hc]
  simp [List.getD_eq_getElem?_getD, List.getElem?_take, hi]

theorem OwnI.other {w : World} {B : Nat} {zs : List Int} (h : OwnI w B zs) {a : Addr} (ha : B ≠ a.block) (v : Value) : OwnI (w.setCell a v) B zs := h.of_block (Below.heap_setCell _ _ _ _ ha)
theorem bcell' {B : Nat} {W w1 : World} (hb : Below B W w1) : (∀ b o, b < B → w1.cell? ⟨b, o, none⟩ = W.cell? ⟨b, o, none⟩) ∧ (∀ b o, b < B → w1.frozen? ⟨b, o, none⟩ = W.frozen? ⟨b, o, none⟩) :=
  ⟨fun b o h => hb.cell (p := ⟨b, o, none⟩) h, fun b o h => hb.frozen (p := ⟨b, o, none⟩) h⟩


end

section
set_option linter.unusedSimpArgs false
set_option linter.unusedVariables false
open Go.RowKit
theorem Row.set3 {w : World} {b : Nat} {x0 x1 x2 : Value} (h : Row w b [x0, x1, x2]) (v0 v1 v2 : Value) : Row (((w.setCell ⟨b, 0, none⟩ v0).setCell ⟨b, 1, none⟩ v1).setCell ⟨b, 2, none⟩ v2) b [v0, v1, v2] := by
  obtain ⟨T, h⟩ := h
  refine ⟨T, ?_⟩
  simp [World.setCell, Array.getElem?_modify, h]

theorem nightB_parts {rooms sold : Int} {zs : List Int} (h : nightB rooms sold zs = true) : zs.length ≤ 30 ∧ shIn zs ∧ (0 ≤ rooms ∧ rooms ≤ 400) ∧ 0 ≤ sold ∧ sold ≤ 1000 := by
  unfold nightB at h
  simp only [Bool.and_eq_true, Bool.not_eq_true'] at h
  obtain ⟨⟨h1, h2⟩, h3⟩ := h
  obtain ⟨a, b⟩ := sharesB_in h1
  simp [outB] at h2 h3
  exact ⟨a, b, by omega, by omega⟩


end

section
set_option linter.unusedSimpArgs false
set_option linter.unusedVariables false
open Go.RowKit

theorem take_succ_getD {l : List Int} {k : Nat} (h : k < l.length) : l.take (k + 1) = l.take k ++ [l.getD k 0] := by
  rw [List.take_succ_eq_append_getElem h]; simp [List.getD, h]

end

section
set_option linter.unusedSimpArgs false
set_option linter.unusedVariables false
open Go.RowKit

/-- A slice value of known length that holds the ints zs. -/
def SlC (w : World) (a : Option Addr) (n cap : Nat) (zs : List Int) : Prop := zs.length = n ∧ SlV w (.slice a n cap) zs
theorem SlC.step {w w1 : World} {a : Option Addr} {n cap : Nat} {zs : List Int} (h : SlC w a n cap zs) (hb : Below w.heap.size w w1) : SlC w1 a n cap zs := ⟨h.1, h.2.step hb⟩
theorem SlV.sized {w : World} {v : Value} {zs : List Int} (h : SlV w v zs) (n : Nat) (hn : zs.length = n) : ∃ a cap, v = .slice a n cap ∧ SlC w a n cap zs := by
  subst hn
  obtain ⟨a, cap, rfl, h1, h2⟩ := h
  exact ⟨a, cap, rfl, rfl, a, cap, rfl, h1, h2⟩
theorem Row.slc {w : World} {B n : Nat} {cs : List Value} {zs : List Int} (h : Row w B cs) (e : cs = zs.map (Value.int .i64)) (hn : zs.length = n) (hm : n ≤ 1000000) : SlC w (some ⟨B, 0, none⟩) n n zs := by
  subst e hn
  exact ⟨rfl, _, _, rfl, SlI.row (rest := []) (by simpa using h) rfl, Nat.le_refl _, by unfold maxLen; omega⟩
theorem SlC.sl {w : World} {a : Option Addr} {n cap : Nat} {zs : List Int} (h : SlC w a n cap zs) : SlI w a n zs := by
  obtain ⟨rfl, a', c', e, h1, _⟩ := h
  cases e
  exact h1
theorem SlC.v {w : World} {a : Option Addr} {n cap : Nat} {zs : List Int} (h : SlC w a n cap zs) : SlV w (.slice a n cap) zs := h.2


end

section
set_option linter.unusedSimpArgs false
set_option linter.unusedVariables false
open Go.RowKit

/-- One cell. -/
def CellAt (w : World) (b o : Nat) (v : Value) : Prop := w.cell? ⟨b, o, none⟩ = some v
theorem CellAt.out {w : World} {b o : Nat} {v : Value} (h : CellAt w b o v) : w.cell? ⟨b, o, none⟩ = some v := h
theorem CellAt.drew {w : World} {b o : Nat} {v : Value} (h : CellAt w b o v) : CellAt w.drew b o v := h
theorem CellAt.drewN {w : World} {b o : Nat} {v : Value} (h : CellAt w b o v) (n : Nat) : CellAt (w.drewN n) b o v := h
theorem CellAt.step {w w1 : World} {b o : Nat} {v : Value} (h : CellAt w b o v) (hb : Below w.heap.size w w1) : CellAt w1 b o v := (hb.cell (p := ⟨b, o, none⟩) (World.block_lt_of_cell? w _ h)).trans h
theorem CellAt.alloc {w : World} {b o : Nat} {v : Value} (h : CellAt w b o v) (x : Obj) : CellAt (w.alloc x) b o v := h.step ((Below.refl _ _).alloc (Nat.le_refl _) _)
theorem SlC.drew {w : World} {a : Option Addr} {n c : Nat} {zs : List Int} (h : SlC w a n c zs) : SlC w.drew a n c zs := h
theorem SlC.drewN {w : World} {a : Option Addr} {n c : Nat} {zs : List Int} (h : SlC w a n c zs) (k : Nat) : SlC (w.drewN k) a n c zs := h
theorem SlC.alloc {w : World} {a : Option Addr} {n c : Nat} {zs : List Int} (h : SlC w a n c zs) (x : Obj) : SlC (w.alloc x) a n c zs := h.step ((Below.refl _ _).alloc (Nat.le_refl _) _)
theorem SlC.nil (w : World) : SlC w none 0 0 [] := ⟨rfl, SlV.nil w⟩
theorem SlV.c {w : World} {v : Value} {zs : List Int} (h : SlV w v zs) : ∃ a cap, v = .slice a zs.length cap ∧ zs.length ≤ cap ∧ cap ≤ maxLen ∧ SlC w a zs.length cap zs := by
  obtain ⟨a, cap, rfl, h1, h2, h3⟩ := h
  exact ⟨a, cap, rfl, h2, h3, rfl, a, cap, rfl, h1, h2, h3⟩

theorem shIn_set {zs : List Int} (h : shIn zs) (c : Nat) {x : Int} (hx : 0 ≤ x ∧ x ≤ 400) : shIn (zs.set c x) := by
  intro z hz
  rcases List.mem_or_eq_of_mem_set hz with g | g
  · exact h z g
  · rw [g]; exact hx
theorem sharesB_of {zs : List Int} (h1 : zs.length ≤ 30) (h2 : shIn zs) : sharesB zs = true := by
  unfold sharesB
  rw [decide_eq_true h1, Bool.true_and, Bool.not_eq_true', List.any_eq_false]
  intro z hz
  rw [outB_false (h2 z hz)]
  simp
theorem nightB_of {rooms sold : Int} {zs : List Int} (h1 : zs.length ≤ 30) (h2 : shIn zs) (h3 : 0 ≤ rooms ∧ rooms ≤ 400) (h4 : 0 ≤ sold ∧ sold ≤ 1000) : nightB rooms sold zs = true := by
  unfold nightB
  rw [sharesB_of h1 h2, outB_false h3, outB_false h4]; rfl
theorem getD_set {zs : List Int} {c : Nat} {x : Int} (i : Nat) (hc : c < zs.length) : (zs.set c x).getD i 0 = if i = c then x else zs.getD i 0 := by
  simp only [List.getD_eq_getElem?_getD, List.getElem?_set]
  by_cases h : c = i
  · subst h; simp [hc]
  · simp [h, Ne.symm h]
theorem set_back {zs : List Int} {c : Nat} {x z : Int} (hz : zs.getD c 0 = z) (hc : c < zs.length) : (zs.set c x).set c z = zs := by
  rw [List.set_set]
  refine List.ext_getElem (by simp) (fun i h1 h2 => ?_)
  rw [List.getElem_set]
  split
  · rename_i e
    subst e
    rw [← hz]; simp [List.getD, hc]
  · rfl

end

section
set_option linter.unusedSimpArgs false
set_option linter.unusedVariables false
open Go.ChangeShapes Go.WideShapes Go.ChangeAt Go.RowKit

theorem SlC.take {w : World} {a : Option Addr} {n c : Nat} {zs : List Int} (h : SlC w a n c zs) {m : Nat} (hm : m ≤ n) : SlC w a m c (zs.take m) := by
  obtain ⟨h1, a', c', e, h2, h3, h4⟩ := h
  cases e
  have hl : (zs.take m).length = m := by rw [List.length_take]; omega
  exact ⟨hl, a, c, by rw [hl], by rw [hl]; exact h2.take (by omega), by omega, h4⟩
theorem topL_take (zs : List Int) {k m : Nat} (h : k ≤ m) : (topL zs m).take k = topL zs k := by
  unfold topL; rw [List.take_take, Nat.min_eq_left h]
theorem topL_all {zs : List Int} {k : Nat} (h : zs.length ≤ k) : topL zs k = topAll zs := by
  unfold topL; exact List.take_of_length_le (by rw [topAll_length]; exact h)
theorem topL_getD {zs : List Int} {k i : Nat} (h : i < k) : (topL zs k).getD i 0 = (topAll zs).getD i 0 := by
  unfold topL; simp [List.getD_eq_getElem?_getD, List.getElem?_take, h]

/-- Top, where it is asked rightly, with a known number of channels. -/
theorem top_c (k m : Nat) (c' : Int) (a : Option Addr) (n cap : Nat) (zs : List Int) (w : World) (hs : SlC w a n cap zs) (hc : c' = k) (hk : k ≤ 30) (hb : sharesB zs = true) (hm : min k n = m) (hn : n ≤ 30) :
    Calls Try.prog 24 #[.slice a n cap, .int .i64 c'] w fun e w' => ∃ b d, e = .returned (.tuple #[.int .i64 (topS zs k), .slice b m d, .int .i64 0]) ∧ SlC w' b m d (topL zs k) ∧ Below w.heap.size w w' := by
  subst hc
  refine (top_ok a n cap zs k w (by omega) hs.sl ⟨hb, by omega, by omega⟩).mono ?_
  rintro e w' ⟨v, rfl, hv, hbl⟩
  rw [Int.toNat_natCast] at hv ⊢
  obtain ⟨b, d, rfl, h⟩ := hv.sized m (by rw [topL_length, hs.1]; exact hm)
  exact ⟨b, d, rfl, h, hbl⟩

theorem SlC.le {w : World} {a : Option Addr} {n c : Nat} {zs : List Int} (h : SlC w a n c zs) : n ≤ c := by
  obtain ⟨h1, a', c', e, _, h3, _⟩ := h
  cases e
  omega
theorem SlC.nil0 {w : World} {a : Option Addr} {c : Nat} {zs : List Int} (h : SlC w a 0 c zs) : SlC w a 0 c [] := by
  have : zs = [] := List.eq_nil_of_length_eq_zero h.1
  rwa [this] at h

end

end Go.Proofs.Ytdijdfhlmnhcjaa
