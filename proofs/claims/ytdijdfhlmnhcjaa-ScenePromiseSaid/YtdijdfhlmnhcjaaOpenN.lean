/-
  What a slice of nights among the arguments holds.
-/
import Derived.Test.YtdijdfhlmnhcjaaOpen
import Derived.Test.YtdijdfhlmnhcjaaShareB
import Derived.Deep.Slices
import Derived.Deep.Fields
import Derived.ChangeSame
namespace Go.Proofs.Ytdijdfhlmnhcjaa
set_option linter.unusedSimpArgs false
set_option linter.unusedVariables false
open Go.ChangeShapes Go.WideShapes Go.ChangeAt Go.RowKit Go.Deep

section
variable {H : Type} {enc : TypeId × Value → H} {P : Program} {w : World} {base : Nat} {spare : Nat → Bool} {held : Bool}
/-- An argument that is a slice of structs, all of whose fields are one cell. -/
theorem open_slice_fields {t e : TypeId} {fs : Array Field} {fuel : Nat} {cs : List Value} {x : DataW H × List MemPlace} (ht : P.underlying t = some (.slice e)) (he : P.underlying e = some (.struct fs))
    (hone : oneCellFields P fs = true) (hC : P.cellsOf e = fs.size) (h : DataW.trod enc P w base spare held fuel t cs = some x) :
    (cs = [.slice none 0 0] ∧ x = (.nil, [])) ∨
    ∃ (a : Addr) (len cap m : Nat), cs = [.slice (some a) len cap] ∧ base ≤ a.block ∧ len ≤ cap ∧ cap ≤ maxLen ∧ m = (if spare a.block then cap else len) ∧
      ∀ i, i < m → ∃ (n : Nat),
        ∀ (j : Nat) (f : Field), fs[j]? = some f → ∃ (v : Value) (y : DataW H × List MemPlace), w.cell? (a.add (i * fs.size + j)) = some v ∧ DataW.trod enc P w base spare held n f.type [v] = some y := by
  rcases open_slice ht h with h0 | ⟨a, len, cap, m, n, D, Pl, hcs, hb, hl, hm, hmm, hx, hi⟩
  · exact .inl h0
  · refine .inr ⟨a, len, cap, m, hcs, hb, hl, hm, hmm, fun i him => ?_⟩
    obtain ⟨cs', hc, ht'⟩ := hi i him
    rw [hC] at hc
    obtain ⟨ys, n', hn', hy, hlen, hyl, hf⟩ := DataW.trod_struct he ht'
    obtain ⟨_, hcl, hat⟩ := World.cells?_some hc
    refine ⟨n', fun j f hj => ?_⟩
    obtain ⟨ho, hk⟩ := hone_of hone j f hj
    have hjl : j < fs.size := (Array.getElem?_eq_some_iff.1 hj).1
    have hcell := hat j hjl
    have hv : cs'[j]? = some (cs'[j]'(by omega)) := List.getElem?_eq_getElem (by omega)
    have h1 := hf j f hj
    rw [ho, hk] at h1
    have hone' : (cs'.drop j).take 1 = [cs'[j]'(by omega)] := by
      rw [List.drop_eq_getElem_cons (by omega)]
      rfl
    rw [hone'] at h1
    have hys : ys[j]? = some (ys[j]'(by omega)) := List.getElem?_eq_getElem (by omega)
    refine ⟨_, _, ?_, h1.trans hys⟩
    rw [← Go.Deep.add_add, hcell, hv]
end

/-- The bounds that Go's types give. -/
def NightWf (x : NightV) : Prop := (Lit.int .i64 x.rooms).wf = true ∧ (Lit.int .i64 x.sold).wf = true ∧ x.n ≤ x.cap ∧ x.cap ≤ maxLen ∧ ∀ z ∈ x.zs, -9223372036854775808 ≤ z ∧ z ≤ 9223372036854775807

theorem addr_plain {w : World} {a : Addr} {v : Value} (h : w.cell? (a.add 0) = some v) : a = ⟨a.block, a.off, none⟩ := by
  obtain ⟨b, off, spot⟩ := a
  cases spot with
  | none => rfl
  | some s => simp only [World.cell?, Addr.add] at h; split at h <;> simp at h
theorem add_plain (b off k : Nat) : (⟨b, off, none⟩ : Addr).add k = ⟨b, off + k, none⟩ := by simp [Addr.add]

theorem choose_list {α : Type} {p : Nat → α → Prop} : ∀ (n : Nat), (∀ i, i < n → ∃ x, p i x) → ∃ l : List α, l.length = n ∧ ∀ i x, l[i]? = some x → p i x
  | 0, _ => ⟨[], rfl, fun i x h => by simp at h⟩
  | n + 1, h => by
    obtain ⟨l, hl, hp⟩ := choose_list n (fun i hi => h i (by omega))
    obtain ⟨x, hx⟩ := h n (by omega)
    refine ⟨l ++ [x], by simp [hl], fun i y hy => ?_⟩
    by_cases hi : i < n
    · rw [List.getElem?_append_left (by omega)] at hy; exact hp i y hy
    · have hlt := (List.getElem?_eq_some_iff.1 hy).1
      simp [hl] at hlt
      obtain rfl : i = n := by omega
      rw [List.getElem?_append_right (by omega)] at hy
      simp [hl] at hy
      subst hy; exact hx

theorem cells_night : Try.prog.cellsOf 46 = 3 := by kernel_rfl
theorem sln_of_nights {H : Type} {enc : TypeId × Value → H} {w : World} {fuel : Nat} {v : Value} {x : DataW H × List MemPlace} (h : DataW.trod enc Try.prog w 0 (fun _ => true) true fuel 22 [v] = some x) :
    ∃ a n cap l, v = .slice a n cap ∧ n ≤ cap ∧ cap ≤ maxLen ∧ SlN w a n l ∧ ∀ x ∈ l, NightWf x := by
  rcases open_slice_fields Try.underlying22 Try.underlying46 (by kernel_rfl) cells_night h with ⟨hcs, _⟩ | ⟨a, len, cap, m, hcs, _, hl, hm, hmm, hf⟩
  · simp only [List.cons.injEq, and_true] at hcs
    subst hcs
    exact ⟨none, 0, 0, [], rfl, Nat.le_refl _, by unfold maxLen; omega, SlN.nil _ _, fun x hx => by simp at hx⟩
  · simp only [List.cons.injEq, and_true] at hcs
    subst hcs
    simp only [if_true] at hmm
    have hpl : 0 < len → a = ⟨a.block, a.off, none⟩ := fun h0 => by
      obtain ⟨n, hn⟩ := hf 0 (by omega)
      obtain ⟨v0, y0, c0, _⟩ := hn 0 _ rfl
      exact addr_plain c0
    obtain ⟨l, hll, hp⟩ := choose_list (p := fun i (x : NightV) => (x.In w ∧ ∃ b off, some a = some ⟨b, off, none⟩ ∧
        w.cell? ⟨b, off + i * 3, none⟩ = some (.int .i64 x.rooms) ∧ w.cell? ⟨b, off + i * 3 + 1, none⟩ = some (.int .i64 x.sold) ∧ w.cell? ⟨b, off + i * 3 + 2, none⟩ = some (.slice x.at' x.n x.cap)) ∧ NightWf x) len (fun i hi => by
      obtain ⟨n, hn⟩ := hf i (by omega)
      obtain ⟨v0, y0, c0, t0⟩ := hn 0 _ rfl
      obtain ⟨v1, y1, c1, t1⟩ := hn 1 _ rfl
      obtain ⟨v2, y2, c2, t2⟩ := hn 2 _ rfl
      obtain ⟨z0, e0, _, w0⟩ := DataW.trod_int Try.underlying3 t0
      obtain ⟨z1, e1, _, w1⟩ := DataW.trod_int Try.underlying3 t1
      obtain ⟨zs, hz, wz⟩ := slv_of_ints t2
      obtain ⟨ad, cp, rfl, hz1, hz2, hz3⟩ := hz
      simp only [List.cons.injEq, and_true] at e0 e1
      subst e0 e1
      have ha := hpl (by omega)
      refine ⟨⟨z0, z1, ad, zs.length, cp, zs⟩, ⟨⟨by show zs.length ≤ _; unfold maxLen at hz3; omega, hz1⟩, a.block, a.off, by rw [← ha], ?_, ?_, ?_⟩, w0, w1, hz2, hz3, wz⟩
      · rw [ha, add_plain] at c0; exact c0
      · rw [ha, add_plain] at c1; exact c1
      · rw [ha, add_plain] at c2; exact c2)
    exact ⟨some a, len, cap, l, rfl, hl, hm, ⟨hll, fun i x hx => (hp i x hx).1⟩, fun x hx => by
      obtain ⟨i, hi, he⟩ := List.getElem_of_mem hx
      exact (hp i x (by rw [List.getElem?_eq_getElem hi, he])).2⟩

end Go.Proofs.Ytdijdfhlmnhcjaa
