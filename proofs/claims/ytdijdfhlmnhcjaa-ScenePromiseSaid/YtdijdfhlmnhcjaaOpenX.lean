/-
  What a slice of sales, and a scene, among the arguments hold.
-/
import Derived.Test.YtdijdfhlmnhcjaaOpenN
import Derived.Test.YtdijdfhlmnhcjaaScnB
namespace Go.Proofs.Ytdijdfhlmnhcjaa
set_option linter.unusedSimpArgs false
set_option linter.unusedVariables false
open Go.ChangeShapes Go.WideShapes Go.ChangeAt Go.RowKit Go.Deep

theorem trod_field {H : Type} {enc : TypeId × Value → H} {P : Program} {w : World} {base : Nat} {spare : Nat → Bool} {held : Bool} {t : TypeId} {fs : Array Field} {fuel : Nat} {cs : List Value} {x : DataW H × List MemPlace} (ht : P.underlying t = some (.struct fs)) (h : DataW.trod enc P w base spare held fuel t cs = some x)
    (j : Nat) (f : Field) (hj : fs[j]? = some f) : ∃ n y, DataW.trod enc P w base spare held n f.type ((cs.drop f.offset).take (P.cellsOf f.type)) = some y := by
  obtain ⟨xs, n, _, _, _, hlen, hf⟩ := DataW.trod_struct ht h
  have h1 := hf j f hj
  have hlt : j < xs.length := by rw [hlen]; exact (Array.getElem?_eq_some_iff.1 hj).1
  rw [List.getElem?_eq_getElem hlt] at h1
  exact ⟨n, _, h1⟩
def I64 (n : Int) : Prop := -9223372036854775808 ≤ n ∧ n ≤ 9223372036854775807
theorem cells_ask : Try.prog.cellsOf 42 = 4 := by kernel_rfl
theorem cells_sale : Try.prog.cellsOf 44 = 8 := by kernel_rfl
theorem cells_bool : Try.prog.cellsOf 4 = 1 := by kernel_rfl
theorem cells_ints : Try.prog.cellsOf 23 = 1 := by kernel_rfl
theorem cells_scene : Try.prog.cellsOf 25 = 4 := by kernel_rfl
theorem list4 {α : Type} {l : List α} (h : l.length = 4) : ∃ a b c d, l = [a, b, c, d] := by
  match l, h with
  | [a, b, c, d], _ => exact ⟨a, b, c, d, rfl⟩
theorem list8 {α : Type} {l : List α} (h : l.length = 8) : ∃ c0 c1 c2 c3 c4 c5 c6 c7, l = [c0, c1, c2, c3, c4, c5, c6, c7] := by
  match l, h with
  | [c0, c1, c2, c3, c4, c5, c6, c7], _ => exact ⟨c0, c1, c2, c3, c4, c5, c6, c7, rfl⟩
/-- The bounds that Go's types give. -/
def SaleWf (x : SaleV) : Prop := I64 x.id ∧ I64 x.ch ∧ I64 x.tm ∧ I64 x.kd ∧ I64 x.fr ∧ I64 x.un ∧ I64 x.pe

section
variable {H : Type} {enc : TypeId × Value → H} {w : World}
theorem int_of {n : Nat} {v : Value} {y : DataW H × List MemPlace} (h : DataW.trod enc Try.prog w 0 (fun _ => true) true n 3 [v] = some y) : ∃ z, v = .int .i64 z ∧ I64 z := by
  obtain ⟨z, e, _, hw⟩ := DataW.trod_int Try.underlying3 h
  simp only [List.cons.injEq, and_true] at e
  exact ⟨z, e, bd_i64 hw⟩
theorem bool_of {n : Nat} {v : Value} {y : DataW H × List MemPlace} (h : DataW.trod enc Try.prog w 0 (fun _ => true) true n 4 [v] = some y) : ∃ b, v = .bool b := by
  obtain ⟨b, e, _⟩ := DataW.trod_bool Try.underlying4 h
  simp only [List.cons.injEq, and_true] at e
  exact ⟨b, e⟩
theorem ask_of {n : Nat} {c0 c1 c2 c3 : Value} {y : DataW H × List MemPlace} (h : DataW.trod enc Try.prog w 0 (fun _ => true) true n 42 [c0, c1, c2, c3] = some y) : ∃ a b d e, c0 = .int .i64 a ∧ c1 = .int .i64 b ∧ c2 = .int .i64 d ∧ c3 = .int .i64 e ∧ I64 a ∧ I64 b ∧ I64 d ∧ I64 e := by
  obtain ⟨n0, y0, h0⟩ := trod_field Try.underlying42 h 0 _ rfl
  obtain ⟨n1, y1, h1⟩ := trod_field Try.underlying42 h 1 _ rfl
  obtain ⟨n2, y2, h2⟩ := trod_field Try.underlying42 h 2 _ rfl
  obtain ⟨n3, y3, h3⟩ := trod_field Try.underlying42 h 3 _ rfl
  obtain ⟨a, e0, w0⟩ := int_of (v := c0) (y := y0) (n := n0) (by simpa [cells_int] using h0)
  obtain ⟨b, e1, w1⟩ := int_of (v := c1) (y := y1) (n := n1) (by simpa [cells_int] using h1)
  obtain ⟨d, e2, w2⟩ := int_of (v := c2) (y := y2) (n := n2) (by simpa [cells_int] using h2)
  obtain ⟨e, e3, w3⟩ := int_of (v := c3) (y := y3) (n := n3) (by simpa [cells_int] using h3)
  exact ⟨a, b, d, e, e0, e1, e2, e3, w0, w1, w2, w3⟩
theorem sale_of {n : Nat} {c0 c1 c2 c3 c4 c5 c6 c7 : Value} {y : DataW H × List MemPlace} (h : DataW.trod enc Try.prog w 0 (fun _ => true) true n 44 [c0, c1, c2, c3, c4, c5, c6, c7] = some y) :
    ∃ x : SaleV, [c0, c1, c2, c3, c4, c5, c6, c7] = saleCells x ∧ SaleWf x := by
  obtain ⟨n0, y0, h0⟩ := trod_field Try.underlying44 h 0 _ rfl
  obtain ⟨n1, y1, h1⟩ := trod_field Try.underlying44 h 1 _ rfl
  obtain ⟨n2, y2, h2⟩ := trod_field Try.underlying44 h 2 _ rfl
  obtain ⟨n3, y3, h3⟩ := trod_field Try.underlying44 h 3 _ rfl
  obtain ⟨n4, y4, h4⟩ := trod_field Try.underlying44 h 4 _ rfl
  obtain ⟨z0, e0, w0⟩ := int_of (v := c0) (y := y0) (n := n0) (by simpa [cells_int] using h0)
  obtain ⟨z1, e1, w1⟩ := int_of (v := c1) (y := y1) (n := n1) (by simpa [cells_int] using h1)
  obtain ⟨z2, e2, w2⟩ := int_of (v := c2) (y := y2) (n := n2) (by simpa [cells_int] using h2)
  obtain ⟨z3, e3⟩ := bool_of (v := c3) (y := y3) (n := n3) (by simpa [cells_bool] using h3)
  obtain ⟨z4, z5, z6, z7, e4, e5, e6, e7, w4, w5, w6, w7⟩ := ask_of (c0 := c4) (c1 := c5) (c2 := c6) (c3 := c7) (y := y4) (n := n4) (by simpa [cells_ask] using h4)
  subst e0 e1 e2 e3 e4 e5 e6 e7
  exact ⟨⟨z0, z1, z2, z3, z4, z5, z6, z7⟩, rfl, w0, w1, w2, w4, w5, w6, w7⟩
theorem sls_of_sales {fuel : Nat} {v : Value} {x : DataW H × List MemPlace} (h : DataW.trod enc Try.prog w 0 (fun _ => true) true fuel 26 [v] = some x) :
    ∃ a n cap l, v = .slice a n cap ∧ n ≤ cap ∧ cap ≤ maxLen ∧ SlS w a n l ∧ ∀ x ∈ l, SaleWf x := by
  rcases open_slice Try.underlying26 h with ⟨hcs, _⟩ | ⟨a, len, cap, m, n', D, Pl, hcs, _, hl, hm, hmm, _, hi⟩
  · simp only [List.cons.injEq, and_true] at hcs
    subst hcs
    exact ⟨none, 0, 0, [], rfl, Nat.le_refl _, by unfold maxLen; omega, SlS.nil _ _, fun x hx => by simp at hx⟩
  · simp only [List.cons.injEq, and_true] at hcs
    subst hcs
    simp only [if_true] at hmm
    have key : ∀ i, i < len → ∃ x : SaleV, (∀ j v, (saleCells x)[j]? = some v → w.cell? (a.add (i * 8 + j)) = some v) ∧ SaleWf x := fun i hlt => by
      obtain ⟨cs', hc, ht⟩ := hi i (by omega)
      rw [cells_sale] at hc
      obtain ⟨_, hcl, hat⟩ := World.cells?_some hc
      obtain ⟨v0, v1, v2, v3, v4, v5, v6, v7, rfl⟩ := list8 hcl
      obtain ⟨x, hx, hwf⟩ := sale_of ht
      refine ⟨x, fun j v hj => ?_, hwf⟩
      have hjl : j < 8 := (List.getElem?_eq_some_iff.1 hj).1
      have := hat j hjl
      rw [Go.Deep.add_add] at this
      rw [this, hx]
      exact hj
    obtain ⟨l, hll, hp⟩ := choose_list len key
    refine ⟨some a, len, cap, l, rfl, hl, hm, ⟨hll, fun i x hx => ?_⟩, fun x hx => ?_⟩
    · have hlt : i < l.length := (List.getElem?_eq_some_iff.1 hx).1
      have h0 := (hp 0 l[0] (List.getElem?_eq_getElem (by omega))).1 0 _ rfl
      have ha := addr_plain (a := a) (by simpa using h0)
      refine ⟨a.block, a.off, by rw [← ha], fun j v hj => ?_⟩
      have h1 := (hp i x hx).1 j v hj
      rw [ha, add_plain] at h1
      rw [Nat.add_assoc]
      exact h1
    · obtain ⟨i, hi', he⟩ := List.getElem_of_mem hx
      exact (hp i x (by rw [List.getElem?_eq_getElem hi', he])).2
end

/-- A scene in memory. -/
def ScnIn (w : World) (nt wd : Int) (ac : Option Addr) (nc cc : Nat) (zs : List Int) (as' : Option Addr) (ns cs : Nat) (ys : List Int) : Prop :=
  SlI w ac nc zs ∧ SlI w as' ns ys ∧ nc ≤ cc ∧ cc ≤ maxLen ∧ ns ≤ cs ∧ cs ≤ maxLen
def ScnWf (nt wd : Int) (zs ys : List Int) : Prop := I64 nt ∧ I64 wd ∧ (∀ z ∈ zs, I64 z) ∧ ∀ z ∈ ys, I64 z
theorem scene_of {H : Type} {enc : TypeId × Value → H} {w : World} {b0 : Nat} {v : Value} {d : DataW H} {p : List MemPlace} (hv : Value.okWide Try.prog w .any b0 25 v) (h : DataW.Trod enc Try.prog w 0 (fun _ => true) true 25 v d p) :
    ∃ (nt wd : Int) (ac : Option Addr) (nc cc : Nat) (zs : List Int) (as' : Option Addr) (ns cs : Nat) (ys : List Int), v = .agg #[.int .i64 nt, .int .i64 wd, .slice ac nc cc, .slice as' ns cs] ∧ ScnIn w nt wd ac nc cc zs as' ns cs ys ∧ ScnWf nt wd zs ys := by
  obtain ⟨cs, rfl, hsz⟩ := okWide_struct Try.underlying25 hv
  obtain ⟨fuel, hf⟩ := h
  obtain ⟨l⟩ := cs
  obtain ⟨c0, c1, c2, c3, rfl⟩ := list4 (by rw [← cells_scene]; simpa using hsz)
  have hf' : DataW.trod enc Try.prog w 0 (fun _ => true) true fuel 25 [c0, c1, c2, c3] = some (d, p) := by simpa [Value.cells] using hf
  obtain ⟨n0, y0, h0⟩ := trod_field Try.underlying25 hf' 0 _ rfl
  obtain ⟨n1, y1, h1⟩ := trod_field Try.underlying25 hf' 1 _ rfl
  obtain ⟨n2, y2, h2⟩ := trod_field Try.underlying25 hf' 2 _ rfl
  obtain ⟨n3, y3, h3⟩ := trod_field Try.underlying25 hf' 3 _ rfl
  obtain ⟨z0, rfl, w0⟩ := int_of (v := c0) (y := y0) (n := n0) (by simpa [cells_int] using h0)
  obtain ⟨z1, rfl, w1⟩ := int_of (v := c1) (y := y1) (n := n1) (by simpa [cells_int] using h1)
  obtain ⟨zs, hz, wz⟩ := slv_of_ints (v := c2) (x := y2) (fuel := n2) (by simpa [cells_ints] using h2)
  obtain ⟨ys, hy, wy⟩ := slv_of_ints (v := c3) (x := y3) (fuel := n3) (by simpa [cells_ints] using h3)
  obtain ⟨pa, pc, rfl, hz1, hz2, hz3⟩ := hz
  obtain ⟨qa, qc, rfl, hy1, hy2, hy3⟩ := hy
  exact ⟨z0, z1, pa, zs.length, pc, zs, qa, ys.length, qc, ys, rfl, ⟨hz1, hy1, hz2, hz3, hy2, hy3⟩, w0, w1, wz, wy⟩

end Go.Proofs.Ytdijdfhlmnhcjaa
