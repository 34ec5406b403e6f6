/-
  'append' of several expressions at once, and a store into a slice of the call's own.
-/
import Derived.Test.YtcmodmchnokmgaaOwnF
namespace Go.Proofs.Ytcmodmchnokmgaa
set_option linter.unusedSimpArgs false
set_option linter.unusedVariables false
open Go.RowKit

theorem ExIn.cells {w : World} {b off : Nat} : ∀ {l : List Ex} {i : Nat}, ExIn w (some ⟨b, off, none⟩) i l → ∀ j u, (l.flatMap Ex.cells)[j]? = some u → w.cell? ⟨b, off + i * 3 + j, none⟩ = some u
  | [], _, _, j, u, h => by simp at h
  | x :: r, i, hx, j, u, h => by
    unfold ExIn at hx
    obtain ⟨b', off', e, c0, c1, c2⟩ := hx.1.1
    cases e
    rw [List.flatMap_cons] at h
    by_cases hj : j < 3
    · rw [List.getElem?_append_left (by rw [Ex.cells_len]; exact hj)] at h
      have hc : j = 0 ∨ j = 1 ∨ j = 2 := by omega
      rcases hc with rfl | rfl | rfl <;> (simp [Ex.cells] at h; subst h; first | exact c0 | exact c1 | exact c2)
    · rw [List.getElem?_append_right (by rw [Ex.cells_len]; omega), Ex.cells_len] at h
      have := ExIn.cells hx.2 (j - 3) u h
      rwa [show off + (i + 1) * 3 + (j - 3) = off + i * 3 + j by omega] at this
theorem step_app_Es {ops : Array Oper} {o : Oper} {a : Act} {w : World} {K : Act → World → Prop} {Q : Exit → Act → World → Prop} {E : Prop}
    (hg : o.guard = none) (s x : Operand) (t : TypeId) (hop : o.op = Op.call { callee := Callee.builtin Builtin.append, args := #[s, x], argTypes := #[t, t] }) (ht : Try.prog.underlying t = some (.slice 24))
    (base : Nat) (v : Value) (l : List Ex) (hs : a.eval s = v) (hown : OwnE w base v l) (b off m c : Nat) (ys : List Ex) (hx : a.eval x = .slice (some ⟨b, off, none⟩) m c) (hys : ExIn w (some ⟨b, off, none⟩) 0 ys) (hl : ys.length = m) (hm : 0 < m) (hn : l.length + m ≤ 1000000000) (hbase : base ≤ w.heap.size)
    (hK : ∀ gg cap w', OwnE w' base (.slice (some ⟨gg, 0, none⟩) (l.length + m) cap) (l ++ ys) → w.grownBy w' v.ownBlock → (v.ownBlock = some gg ∨ gg = w.heap.size) → gg < w'.heap.size → K (a.put o.dst (.slice (some ⟨gg, 0, none⟩) (l.length + m) cap)) w') :
    if Region.wanted o (yielded ops a.tmps) = true then Oper.wp Try.prog o a w K Q else E := by
  obtain ⟨i0, hi, hz0, hz1, hz2⟩ := info_parts info_E
  refine step_append_lies w hg s x t hop base 24 i0 (.agg #[.int .i64 0, .int .i64 0, .slice none 0 0]) 3 40 ht hi hz0 hz1 hz2 rfl (by decide) v l.length _ hs hown ⟨b, off, none⟩ m c (ys.flatMap Ex.cells) hx (by rw [flat_len Ex.cells_len, hl]) ?_ ?_ hm ?_ ?_ hbase _ rfl ?_
  · intro j u hj
    rw [addr_add]
    have := ExIn.cells hys j u hj
    simpa using this
  · intro u hu
    obtain ⟨y, _, hy⟩ := List.mem_flatMap.1 hu
    exact Ex.cells_one hy
  · unfold maxLen; omega
  · omega
  · intro gg cap w' h1 h2 h3 h4
    refine hK gg cap w' ?_ h2 h3 h4
    unfold OwnE
    rw [List.flatMap_append, List.length_append, hl]
    exact h1
/-- The empty slice that a call makes. -/
theorem OwnE.made (w : World) (base : Nat) (h : base ≤ w.heap.size) : OwnE (w.alloc (.cells #[] 24)) base (.slice (some ⟨w.heap.size, 0, none⟩) 0 0) [] :=
  ⟨rfl, Or.inr ⟨w.heap.size, 0, #[], rfl, h, (by show (w.heap.push _)[w.heap.size]? = _; exact Array.getElem?_push_size), Nat.le_refl _, by unfold maxLen; omega, rfl, rfl⟩⟩

theorem flat_set : ∀ (l : List Ex) (i : Nat) (y : Ex), i < l.length → (l.set i y).flatMap Ex.cells = (l.flatMap Ex.cells).take (i * 3) ++ y.cells ++ (l.flatMap Ex.cells).drop (i * 3 + 3)
  | [], _, _, h => by simp at h
  | x :: r, 0, y, _ => by
    simp only [List.set_cons_zero, List.flatMap_cons, Nat.zero_mul, List.take_zero, List.nil_append, Nat.zero_add]
    rw [List.drop_append, Ex.cells_len, List.drop_of_length_le (by rw [Ex.cells_len]; omega)]
    simp
  | x :: r, i + 1, y, h => by
    have ih := flat_set r i y (by simpa using h)
    simp only [List.set_cons_succ, List.flatMap_cons]
    rw [ih, List.take_append, List.drop_append, Ex.cells_len, List.take_of_length_le (l := x.cells) (by rw [Ex.cells_len]; omega), List.drop_of_length_le (l := x.cells) (by rw [Ex.cells_len]; omega), show (i + 1) * 3 - 3 = i * 3 by omega, show (i + 1) * 3 + 3 - 3 = i * 3 + 3 by omega]
    simp
theorem take_mid {α : Type} (c vs : List α) (p q : Nat) (h : p + vs.length ≤ q) (h2 : q ≤ c.length) : (c.take p ++ vs ++ c.drop (p + vs.length)).take q = (c.take q).take p ++ vs ++ (c.take q).drop (p + vs.length) := by
  have e2 : (c.take p ++ vs).length = p + vs.length := by simp; omega
  rw [List.take_append (l₁ := c.take p ++ vs), e2, List.take_of_length_le (l := c.take p ++ vs) (by omega), List.take_take, Nat.min_eq_left (by omega), List.drop_take]
/-- A store into a slice of the call's own. -/
theorem OwnE.store {w : World} {base g n cap : Nat} {l : List Ex} (h : OwnE w base (.slice (some ⟨g, 0, none⟩) n cap) l) (hl : l.length = n) {i : Nat} (hi : i < n) (y : Ex) :
    OwnE (Go.Proofs.Ytcmodmchnokmgaa.puts w g (i * 3) y.cells) base (.slice (some ⟨g, 0, none⟩) n cap) (l.set i y) ∧ Ch (fun k => k = g) w (Go.Proofs.Ytcmodmchnokmgaa.puts w g (i * 3) y.cells) := by
  refine ⟨?_, Ch.puts _ _ (Ch.refl _ w)⟩
  obtain ⟨h1, h2⟩ := h
  rcases h2 with ⟨h0, _⟩ | ⟨g', cap', cur, e1, e2, e3, e4, e5, e6, e7⟩
  · simp at h0
  · simp only [Value.slice.injEq, Option.some.injEq, Addr.mk.injEq] at e1
    obtain ⟨⟨rfl, _, _⟩, _, rfl⟩ := e1
    have hlen : cur.toList.length = cap * 3 := by simpa using e6
    have hP := Row.puts y.cells (i * 3) (w := w) (b := g) (cs := cur.toList) ⟨_, by rw [e3]⟩ (by rw [hlen, Ex.cells_len]; omega)
    obtain ⟨T, hT⟩ := hP
    have hkeep : ∀ (vs : List Value) (q : Nat) (W : World) (c : Array Value), W.heap[g]? = some (.cells c 24 (0, 0)) → ∃ c', (Go.Proofs.Ytcmodmchnokmgaa.puts W g q vs).heap[g]? = some (.cells c' 24 (0, 0)) := by
      intro vs
      induction vs with
      | nil => intro q W c hc; exact ⟨c, hc⟩
      | cons v r ih =>
        intro q W c hc
        exact ih (q + 1) _ (c.setIfInBounds q v) (by simp [World.setCell, Array.getElem?_modify, hc])
    obtain ⟨c', hc'⟩ := hkeep y.cells (i * 3) w cur e3
    rw [hc'] at hT
    simp only [Option.some.injEq, Obj.cells.injEq] at hT
    obtain ⟨hcl, _, _⟩ := hT
    refine ⟨by rw [flat_len Ex.cells_len], Or.inr ⟨g, cap, c', by rw [List.length_set, hl], e2, hc', by rw [List.length_set]; exact e4, e5, ?_, ?_⟩⟩
    · rw [hcl]; simp [Ex.cells_len]; simp at hlen; omega
    · rw [List.length_set, hcl, flat_set l i y (by omega), ← e7]
      have := take_mid cur.toList y.cells (i * 3) (l.length * 3) (by rw [Ex.cells_len]; omega) (by rw [hlen]; omega)
      rw [Ex.cells_len] at this
      simpa [Ex.cells_len] using this
theorem OwnE.frozen {w : World} {base g n cap : Nat} {l : List Ex} (h : OwnE w base (.slice (some ⟨g, 0, none⟩) n cap) l) (i : Nat) : w.frozen? ⟨g, i, none⟩ = false := by
  obtain ⟨h1, h2⟩ := h
  rcases h2 with ⟨h0, _⟩ | ⟨g', cap', cur, e1, e2, e3, _⟩
  · simp at h0
  · simp only [Value.slice.injEq, Option.some.injEq, Addr.mk.injEq] at e1
    obtain ⟨⟨rfl, _, _⟩, _, rfl⟩ := e1
    unfold World.frozen?
    rw [e3]
    simp

end Go.Proofs.Ytcmodmchnokmgaa
