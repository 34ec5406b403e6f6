/-
  What a block among the arguments holds.
-/
import Derived.Test.YtjmlkdopbiedaaaLaw
import Derived.Test.YtjmlkdopbiedaaaOpen
import Derived.Test.YtjmlkdopbiedaaaGrpF
import Derived.Deep.Slices
import Derived.Deep.Fields
import Derived.ChangeSame
namespace Go.Proofs.Ytjmlkdopbiedaaa
set_option linter.unusedSimpArgs false
set_option linter.unusedVariables false
open Go.ChangeShapes Go.WideShapes Go.ChangeAt Go.RowKit Go.Deep

theorem trod_field {H : Type} {enc : TypeId × Value → H} {P : Program} {w : World} {base : Nat} {spare : Nat → Bool} {held : Bool} {t : TypeId} {fs : Array Field} {fuel : Nat} {cs : List Value} {x : DataW H × List MemPlace} (ht : P.underlying t = some (.struct fs)) (h : DataW.trod enc P w base spare held fuel t cs = some x)
    (j : Nat) (f : Field) (hj : fs[j]? = some f) : ∃ n y, DataW.trod enc P w base spare held n f.type ((cs.drop f.offset).take (P.cellsOf f.type)) = some y := by
  obtain ⟨xs, n, _, _, _, hlen, hf⟩ := DataW.trod_struct ht h
  have h1 := hf j f hj
  have hlt : j < xs.length := by rw [hlen]; exact (Array.getElem?_eq_some_iff.1 hj).1
  rw [List.getElem?_eq_getElem hlt] at h1
  exact ⟨n, _, h1⟩
theorem addr_plain {w : World} {a : Addr} {v : Value} (h : w.cell? (a.add 0) = some v) : a = ⟨a.block, a.off, none⟩ := by
  obtain ⟨b, off, spot⟩ := a
  cases spot with
  | none => rfl
  | some s => simp only [World.cell?, Addr.add] at h; split at h <;> simp at h
theorem add_plain (b off k : Nat) : (⟨b, off, none⟩ : Addr).add k = ⟨b, off + k, none⟩ := by simp [Addr.add]
theorem choose_list {α : Type} {p : Nat → α → Prop} : ∀ (n : Nat), (∀ i, i < n → ∃ x, p i x) → ∃ l : List α, l.length = n ∧ ∀ i x, l[i]? = some x → p i x
  | 0, _ => ⟨[], rfl, fun i x h => by simp at h⟩
  | n + 1, h => by
    obtain ⟨l, hl, hp⟩ := choose_list n (fun i hi => h i (by omega))
    obtain ⟨x, hx⟩ := h n (by omega)
    refine ⟨l ++ [x], by simp [hl], fun i y hy => ?_⟩
    by_cases hi : i < n
    · rw [List.getElem?_append_left (by omega)] at hy; exact hp i y hy
    · have hlt := (List.getElem?_eq_some_iff.1 hy).1
      simp [hl] at hlt
      obtain rfl : i = n := by omega
      rw [List.getElem?_append_right (by omega)] at hy
      simp [hl] at hy
      subst hy; exact hx

def I64 (n : Int) : Prop := -9223372036854775808 ≤ n ∧ n ≤ 9223372036854775807
theorem cells_cut : Try.prog.cellsOf 44 = 3 := by kernel_rfl
theorem cells_rat : Try.prog.cellsOf 26 = 2 := by kernel_rfl
theorem cells_span : Try.prog.cellsOf 23 = 2 := by kernel_rfl
theorem cells_ints : Try.prog.cellsOf 27 = 1 := by kernel_rfl
theorem cells_cuts : Try.prog.cellsOf 24 = 1 := by kernel_rfl
theorem cells_block : Try.prog.cellsOf 29 = 10 := by kernel_rfl

section
variable {H : Type} {enc : TypeId × Value → H} {w : World}
theorem int_of {n : Nat} {v : Value} {y : DataW H × List MemPlace} (h : DataW.trod enc Try.prog w 0 (fun _ => true) true n 3 [v] = some y) : ∃ z, v = .int .i64 z ∧ I64 z := by
  obtain ⟨z, e, _, hw⟩ := DataW.trod_int Try.underlying3 h
  simp only [List.cons.injEq, and_true] at e
  exact ⟨z, e, bd_i64 hw⟩
theorem rat_of {n : Nat} {u v : Value} {y : DataW H × List MemPlace} (h : DataW.trod enc Try.prog w 0 (fun _ => true) true n 26 [u, v] = some y) : ∃ a b, u = .int .i64 a ∧ v = .int .i64 b ∧ I64 a ∧ I64 b := by
  obtain ⟨n0, y0, h0⟩ := trod_field Try.underlying26 h 0 _ rfl
  obtain ⟨n1, y1, h1⟩ := trod_field Try.underlying26 h 1 _ rfl
  obtain ⟨a, e0, w0⟩ := int_of (v := u) (y := y0) (n := n0) (by simpa [cells_int] using h0)
  obtain ⟨b, e1, w1⟩ := int_of (v := v) (y := y1) (n := n1) (by simpa [cells_int] using h1)
  exact ⟨a, b, e0, e1, w0, w1⟩
theorem span_of {n : Nat} {u v : Value} {y : DataW H × List MemPlace} (h : DataW.trod enc Try.prog w 0 (fun _ => true) true n 23 [u, v] = some y) : ∃ a b, u = .int .i64 a ∧ v = .int .i64 b ∧ I64 a ∧ I64 b := by
  obtain ⟨n0, y0, h0⟩ := trod_field Try.underlying23 h 0 _ rfl
  obtain ⟨n1, y1, h1⟩ := trod_field Try.underlying23 h 1 _ rfl
  obtain ⟨a, e0, w0⟩ := int_of (v := u) (y := y0) (n := n0) (by simpa [cells_int] using h0)
  obtain ⟨b, e1, w1⟩ := int_of (v := v) (y := y1) (n := n1) (by simpa [cells_int] using h1)
  exact ⟨a, b, e0, e1, w0, w1⟩
theorem cut_of {n : Nat} {c0 c1 c2 : Value} {y : DataW H × List MemPlace} (h : DataW.trod enc Try.prog w 0 (fun _ => true) true n 44 [c0, c1, c2] = some y) : ∃ a b d, c0 = .int .i64 a ∧ c1 = .int .i64 b ∧ c2 = .int .i64 d ∧ I64 a ∧ I64 b ∧ I64 d := by
  obtain ⟨n0, y0, h0⟩ := trod_field Try.underlying44 h 0 _ rfl
  obtain ⟨n1, y1, h1⟩ := trod_field Try.underlying44 h 1 _ rfl
  obtain ⟨a, e0, w0⟩ := int_of (v := c0) (y := y0) (n := n0) (by simpa [cells_int] using h0)
  obtain ⟨b, d, e1, e2, w1, w2⟩ := rat_of (u := c1) (v := c2) (y := y1) (n := n1) (by simpa [cells_rat] using h1)
  exact ⟨a, b, d, e0, e1, e2, w0, w1, w2⟩
theorem list3 {α : Type} {l : List α} (h : l.length = 3) : ∃ a b c, l = [a, b, c] := by
  match l, h with
  | [a, b, c], _ => exact ⟨a, b, c, rfl⟩
theorem list10 {α : Type} {l : List α} (h : l.length = 10) : ∃ c0 c1 c2 c3 c4 c5 c6 c7 c8 c9, l = [c0, c1, c2, c3, c4, c5, c6, c7, c8, c9] := by
  match l, h with
  | [c0, c1, c2, c3, c4, c5, c6, c7, c8, c9], _ => exact ⟨c0, c1, c2, c3, c4, c5, c6, c7, c8, c9, rfl⟩
/-- What a slice of cuts holds. -/
theorem cuts_of {n : Nat} {v : Value} {y : DataW H × List MemPlace} (h : DataW.trod enc Try.prog w 0 (fun _ => true) true n 24 [v] = some y) :
    ∃ a len cap l, v = .slice a len cap ∧ len ≤ cap ∧ cap ≤ maxLen ∧ Sl3 w a len l ∧ ∀ x ∈ l, I64 x.1 ∧ I64 x.2.1 ∧ I64 x.2.2 := by
  rcases open_slice Try.underlying24 h with ⟨hcs, _⟩ | ⟨a, len, cap, m, n', D, Pl, hcs, _, hl, hm, hmm, _, hi⟩
  · simp only [List.cons.injEq, and_true] at hcs
    subst hcs
    exact ⟨none, 0, 0, [], rfl, Nat.le_refl _, by unfold maxLen; omega, Sl3.nil _ _, fun x hx => by simp at hx⟩
  · simp only [List.cons.injEq, and_true] at hcs
    subst hcs
    simp only [if_true] at hmm
    have key : ∀ i, i < len → ∃ x : CutV, (w.cell? (a.add (i * 3)) = some (.int .i64 x.1) ∧ w.cell? (a.add (i * 3 + 1)) = some (.int .i64 x.2.1) ∧ w.cell? (a.add (i * 3 + 2)) = some (.int .i64 x.2.2)) ∧ I64 x.1 ∧ I64 x.2.1 ∧ I64 x.2.2 := fun i hlt => by
      obtain ⟨cs', hc, ht⟩ := hi i (by omega)
      rw [cells_cut] at hc
      obtain ⟨_, hcl, hat⟩ := World.cells?_some hc
      obtain ⟨v0, v1, v2, rfl⟩ := list3 hcl
      obtain ⟨x0, x1, x2, rfl, rfl, rfl, w0, w1, w2⟩ := cut_of ht
      refine ⟨(x0, x1, x2), ⟨?_, ?_, ?_⟩, w0, w1, w2⟩
      · have := hat 0 (by omega); rw [Go.Deep.add_add] at this; simpa using this
      · have := hat 1 (by omega); rw [Go.Deep.add_add] at this; simpa using this
      · have := hat 2 (by omega); rw [Go.Deep.add_add] at this; simpa using this
    obtain ⟨l, hll, hp⟩ := choose_list len key
    refine ⟨some a, len, cap, l, rfl, hl, hm, ⟨hll, fun i x hx => ?_⟩, fun x hx => ?_⟩
    · have hlt : i < l.length := (List.getElem?_eq_some_iff.1 hx).1
      have h0 := (hp 0 l[0] (List.getElem?_eq_getElem (by omega))).1.1
      have ha := addr_plain (a := a) (by simpa using h0)
      obtain ⟨⟨h1, h2, h3⟩, _⟩ := hp i x hx
      rw [ha, add_plain] at h1 h2 h3
      exact ⟨a.block, a.off, by rw [← ha], h1, h2, h3⟩
    · obtain ⟨i, hi', he⟩ := List.getElem_of_mem hx
      exact (hp i x (by rw [List.getElem?_eq_getElem hi', he])).2
end

/-- The bounds that Go's types give. -/
structure BlkWf (B : Blk) : Prop where
  id : I64 B.id
  kind : I64 B.kind
  rooms : I64 B.rooms
  fr : I64 B.fr
  un : I64 B.un
  pn : I64 B.pn
  pd : I64 B.pd
  fee : I64 B.fee
  cuts : ∀ x ∈ B.cuts, I64 x.1 ∧ I64 x.2.1 ∧ I64 x.2.2
  picked : ∀ z ∈ B.picked, I64 z

theorem block_of {H : Type} {enc : TypeId × Value → H} {w : World} {b0 : Nat} {v : Value} {d : DataW H} {p : List MemPlace} (hv : Value.okWide Try.prog w .any b0 29 v) (h : DataW.Trod enc Try.prog w 0 (fun _ => true) true 29 v d p) :
    ∃ (B : Blk) (ca : Option Addr) (cn cc : Nat) (pa : Option Addr) (pm pc : Nat), v = .agg #[.int .i64 B.id, .int .i64 B.kind, .int .i64 B.rooms, .int .i64 B.fr, .int .i64 B.un, .slice ca cn cc, .int .i64 B.pn, .int .i64 B.pd, .int .i64 B.fee, .slice pa pm pc] ∧ BlkIn w B ca cn cc pa pm pc ∧ BlkWf B := by
  obtain ⟨cs, rfl, hsz⟩ := okWide_struct Try.underlying29 hv
  obtain ⟨fuel, hf⟩ := h
  obtain ⟨l⟩ := cs
  obtain ⟨c0, c1, c2, c3, c4, c5, c6, c7, c8, c9, rfl⟩ := list10 (by rw [← cells_block]; simpa using hsz)
  have hf' : DataW.trod enc Try.prog w 0 (fun _ => true) true fuel 29 [c0, c1, c2, c3, c4, c5, c6, c7, c8, c9] = some (d, p) := by simpa [Value.cells] using hf
  obtain ⟨n0, y0, h0⟩ := trod_field Try.underlying29 hf' 0 _ rfl
  obtain ⟨n1, y1, h1⟩ := trod_field Try.underlying29 hf' 1 _ rfl
  obtain ⟨n2, y2, h2⟩ := trod_field Try.underlying29 hf' 2 _ rfl
  obtain ⟨n3, y3, h3⟩ := trod_field Try.underlying29 hf' 3 _ rfl
  obtain ⟨n4, y4, h4⟩ := trod_field Try.underlying29 hf' 4 _ rfl
  obtain ⟨n5, y5, h5⟩ := trod_field Try.underlying29 hf' 5 _ rfl
  obtain ⟨n6, y6, h6⟩ := trod_field Try.underlying29 hf' 6 _ rfl
  obtain ⟨n7, y7, h7⟩ := trod_field Try.underlying29 hf' 7 _ rfl
  obtain ⟨z0, rfl, w0⟩ := int_of (v := c0) (y := y0) (n := n0) (by simpa [cells_int] using h0)
  obtain ⟨z1, rfl, w1⟩ := int_of (v := c1) (y := y1) (n := n1) (by simpa [cells_int] using h1)
  obtain ⟨z2, rfl, w2⟩ := int_of (v := c2) (y := y2) (n := n2) (by simpa [cells_int] using h2)
  obtain ⟨z3, z4, rfl, rfl, w3, w4⟩ := span_of (u := c3) (v := c4) (y := y3) (n := n3) (by simpa [cells_span] using h3)
  obtain ⟨ca, cn, cc, cl, rfl, hc1, hc2, hc3, hc4⟩ := cuts_of (v := c5) (y := y4) (n := n4) (by simpa [cells_cuts] using h4)
  obtain ⟨z6, z7, rfl, rfl, w6, w7⟩ := rat_of (u := c6) (v := c7) (y := y5) (n := n5) (by simpa [cells_rat] using h5)
  obtain ⟨z8, rfl, w8⟩ := int_of (v := c8) (y := y6) (n := n6) (by simpa [cells_int] using h6)
  obtain ⟨zs, hz, wz⟩ := slv_of_ints (v := c9) (x := y7) (fuel := n7) (by simpa [cells_ints] using h7)
  obtain ⟨pa, pc, rfl, hz1, hz2, hz3⟩ := hz
  unfold maxLen at hc2 hz3
  exact ⟨⟨z0, z1, z2, z3, z4, cl, z6, z7, z8, zs⟩, ca, cn, cc, pa, zs.length, pc, rfl, ⟨hc3, hz1, ⟨hc1, by omega⟩, hz2, by omega⟩, ⟨w0, w1, w2, w3, w4, w6, w7, w8, hc4, wz⟩⟩

end Go.Proofs.Ytjmlkdopbiedaaa
