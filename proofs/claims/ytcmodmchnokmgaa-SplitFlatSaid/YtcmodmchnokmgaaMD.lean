/-
 Texts built as one: XCell, XHeldQ.
-/
import Derived.Test.YtcmodmchnokmgaaMC
import Derived.Test.YtcmodmchnokmgaaMA
import Derived.Deep.RegionHeld3
namespace Go.Proofs.Ytcmodmchnokmgaa
section
set_option linter.unusedSimpArgs false
set_option linter.unusedVariables false
open Go.RowKit
/-- A slice value of known length that holds the ints zs. -/
def SlC (w : World) (a : Option Addr) (n cap : Nat) (zs : List Int) : Prop := zs.length = n ∧ SlV w (.slice a n cap) zs
theorem SlC.step {w w1 : World} {a : Option Addr} {n cap : Nat} {zs : List Int} (h : SlC w a n cap zs) (hb : Below w.heap.size w w1) : SlC w1 a n cap zs := ⟨h.1, h.2.step hb⟩
theorem SlV.sized {w : World} {v : Value} {zs : List Int} (h : SlV w v zs) (n : Nat) (hn : zs.length = n) : ∃ a cap, v = .slice a n cap ∧ SlC w a n cap zs := by
 subst hn
 obtain ⟨a, cap, rfl, h1, h2⟩ := h
 exact ⟨a, cap, rfl, rfl, a, cap, rfl, h1, h2⟩
theorem Row.slc {w : World} {B n : Nat} {cs : List Value} {zs : List Int} (h : Row w B cs) (e : cs = zs.map (Value.int .i64)) (hn : zs.length = n) (hm : n ≤ 1000000) : SlC w (some ⟨B, 0, none⟩) n n zs := by
 subst e hn
 exact ⟨rfl, _, _, rfl, SlI.row (rest := []) (by simpa using h) rfl, Nat.le_refl _, by unfold maxLen; omega⟩
theorem SlC.sl {w : World} {a : Option Addr} {n cap : Nat} {zs : List Int} (h : SlC w a n cap zs) : SlI w a n zs := by
 obtain ⟨rfl, a', c', e, h1, _⟩ := h
 cases e
 exact h1
theorem SlC.v {w : World} {a : Option Addr} {n cap : Nat} {zs : List Int} (h : SlC w a n cap zs) : SlV w (.slice a n cap) zs := h.2
/-- One cell. -/
def CellAt (w : World) (b o : Nat) (v : Value) : Prop := w.cell? ⟨b, o, none⟩ = some v
theorem CellAt.out {w : World} {b o : Nat} {v : Value} (h : CellAt w b o v) : w.cell? ⟨b, o, none⟩ = some v := h
theorem CellAt.drew {w : World} {b o : Nat} {v : Value} (h : CellAt w b o v) : CellAt w.drew b o v := h
theorem CellAt.drewN {w : World} {b o : Nat} {v : Value} (h : CellAt w b o v) (n : Nat) : CellAt (w.drewN n) b o v := h
theorem CellAt.step {w w1 : World} {b o : Nat} {v : Value} (h : CellAt w b o v) (hb : Below w.heap.size w w1) : CellAt w1 b o v := (hb.cell (p := ⟨b, o, none⟩) (World.block_lt_of_cell? w _ h)).trans h
theorem CellAt.alloc {w : World} {b o : Nat} {v : Value} (h : CellAt w b o v) (x : Obj) : CellAt (w.alloc x) b o v := h.step ((Below.refl _ _).alloc (Nat.le_refl _) _)
theorem SlC.drew {w : World} {a : Option Addr} {n c : Nat} {zs : List Int} (h : SlC w a n c zs) : SlC w.drew a n c zs := h
theorem SlC.drewN {w : World} {a : Option Addr} {n c : Nat} {zs : List Int} (h : SlC w a n c zs) (k : Nat) : SlC (w.drewN k) a n c zs := h
theorem SlC.alloc {w : World} {a : Option Addr} {n c : Nat} {zs : List Int} (h : SlC w a n c zs) (x : Obj) : SlC (w.alloc x) a n c zs := h.step ((Below.refl _ _).alloc (Nat.le_refl _) _)
theorem SlC.nil (w : World) : SlC w none 0 0 [] := ⟨rfl, SlV.nil w⟩
theorem SlV.c {w : World} {v : Value} {zs : List Int} (h : SlV w v zs) : ∃ a cap, v = .slice a zs.length cap ∧ zs.length ≤ cap ∧ cap ≤ maxLen ∧ SlC w a zs.length cap zs := by
 obtain ⟨a, cap, rfl, h1, h2, h3⟩ := h
 exact ⟨a, cap, rfl, h2, h3, rfl, a, cap, rfl, h1, h2, h3⟩
end
section
set_option linter.unusedSimpArgs false
set_option linter.unusedVariables false
open Go.RowKit
theorem AnyJ.beginP {P : Program} {ops : Array Oper} {Q : Exit → Act → World → Prop} {id : Nat} {a : Act} {w : World} (S : World → Prop) (J : Nat → Bool) (hm : P.follows .mixedOrders = true) (hS : S w.drew)
  (h : S w.drew → AnyJ P .any ops Q S J ops.size (Array.replicate ops.size false) a w.drew) : (Code.region id ops true).wp P Q a w :=
 wp_region_any hm (AnyJ.any _ _ _ _ (h hS))
/-- What yields is taken first; its slot told. -/
theorem AnyJ.takeD {P : Program} {ops : Array Oper} {Q : Exit → Act → World → Prop} {md : Region.Mode} {S : World → Prop} {J : Nat → Bool} {i : Nat} {o : Oper} {d : Option Tmp} {v : Value} {f : Nat} {ls : Array Bool} {a : Act} {w : World} (hi : ops[i]? = some o) (hd : o.dst = d) (hs : Region.noSelect ops = true) (hf : Region.free md ops ls i = true) (hr : (Region.ready md ops ls).contains i = true)
  (hJ : waitsB md ops ls i J = true) (hQ : ∀ c a w, Q (.panic c) (a.put d v) w → Q (.panic c) a w) (hy : YieldsIf P ops S o v a) (hS : S w)
  (h : AnyJ P md ops Q S J f (ls.setIfInBounds i true) (a.put d v) w) : AnyJ P md ops Q S J (f + 1) ls a w := by
 subst hd
 exact AnyJ.take hi hs hf hr hJ hQ hy hS h
end
end Go.Proofs.Ytcmodmchnokmgaa
