/-
  A row of ten cells stored anew; a row made by a literal without cells.
-/
import Derived.Test.YtjmlkdopbiedaaaOwnV
import Derived.Test.YtjmlkdopbiedaaaBase2
namespace Go.Proofs.Ytjmlkdopbiedaaa
set_option linter.unusedSimpArgs false
set_option linter.unusedVariables false
open Go.RowKit

theorem Row.putAt {w : World} {b : Nat} {cs ds : List Value} (h : Row w b cs) (i : Nat) (v : Value) (hd : cs.set i v = ds) : Row (w.setCell ⟨b, i, none⟩ v) b ds := by
  obtain ⟨T, h⟩ := h
  subst hd
  exact ⟨T, by simp [World.setCell, Array.getElem?_modify, h]⟩
theorem Row.set10' {w : World} {b : Nat} (h : ∃ x0 x1 x2 x3 x4 x5 x6 x7 x8 x9, Row w b [x0, x1, x2, x3, x4, x5, x6, x7, x8, x9]) (v0 v1 v2 v3 v4 v5 v6 v7 v8 v9 : Value) : Row ((((((((((w.setCell ⟨b, 0, none⟩ v0).setCell ⟨b, 1, none⟩ v1).setCell ⟨b, 2, none⟩ v2).setCell ⟨b, 3, none⟩ v3).setCell ⟨b, 4, none⟩ v4).setCell ⟨b, 5, none⟩ v5).setCell ⟨b, 6, none⟩ v6).setCell ⟨b, 7, none⟩ v7).setCell ⟨b, 8, none⟩ v8).setCell ⟨b, 9, none⟩ v9) b [v0, v1, v2, v3, v4, v5, v6, v7, v8, v9] := by
  obtain ⟨x0, x1, x2, x3, x4, x5, x6, x7, x8, x9, h⟩ := h
  exact ((((((((((h.putAt 0 v0 rfl).putAt 1 v1 rfl).putAt 2 v2 rfl).putAt 3 v3 rfl).putAt 4 v4 rfl).putAt 5 v5 rfl).putAt 6 v6 rfl).putAt 7 v7 rfl).putAt 8 v8 rfl).putAt 9 v9 rfl)

theorem heap_set10 {w : World} {b c : Nat} (h : c ≠ b) (v0 v1 v2 v3 v4 v5 v6 v7 v8 v9 : Value) : ((((((((((w.setCell ⟨b, 0, none⟩ v0).setCell ⟨b, 1, none⟩ v1).setCell ⟨b, 2, none⟩ v2).setCell ⟨b, 3, none⟩ v3).setCell ⟨b, 4, none⟩ v4).setCell ⟨b, 5, none⟩ v5).setCell ⟨b, 6, none⟩ v6).setCell ⟨b, 7, none⟩ v7).setCell ⟨b, 8, none⟩ v8).setCell ⟨b, 9, none⟩ v9).heap[c]? = w.heap[c]? := by
  simp [World.setCell, Array.getElem?_modify, Ne.symm h]
theorem Row.put10 {w : World} {b : Nat} {x0 x1 x2 x3 x4 x5 x6 x7 x8 x9 : Value} (h : Row w b [x0, x1, x2, x3, x4, x5, x6, x7, x8, x9]) (v0 v1 v2 v3 v4 v5 v6 v7 v8 v9 : Value) :
    ∃ wB, ((((((((((w.setCell ⟨b, 0, none⟩ v0).setCell ⟨b, 1, none⟩ v1).setCell ⟨b, 2, none⟩ v2).setCell ⟨b, 3, none⟩ v3).setCell ⟨b, 4, none⟩ v4).setCell ⟨b, 5, none⟩ v5).setCell ⟨b, 6, none⟩ v6).setCell ⟨b, 7, none⟩ v7).setCell ⟨b, 8, none⟩ v8).setCell ⟨b, 9, none⟩ v9) = wB ∧ Row wB b [v0, v1, v2, v3, v4, v5, v6, v7, v8, v9] ∧ (∀ c, c ≠ b → wB.heap[c]? = w.heap[c]?) ∧ (∀ B w0, B ≤ b → Below B w0 w → Below B w0 wB) :=
  ⟨_, rfl, Row.set10' ⟨x0, x1, x2, x3, x4, x5, x6, x7, x8, x9, h⟩ v0 v1 v2 v3 v4 v5 v6 v7 v8 v9, fun c hc => heap_set10 hc v0 v1 v2 v3 v4 v5 v6 v7 v8 v9, fun B w0 hB hb => by
    refine ((((((((((hb.setCell (by exact hB) _).setCell (by exact hB) _).setCell (by exact hB) _).setCell (by exact hB) _).setCell (by exact hB) _).setCell (by exact hB) _).setCell (by exact hB) _).setCell (by exact hB) _).setCell (by exact hB) _).setCell (by exact hB) _)⟩

theorem heap_new (w : World) (o : Obj) : (w.alloc o).heap[w.heap.size]? = some o := by show (w.heap.push _)[w.heap.size]? = _; simp
/-- An empty slice whose block is the call's own. -/
theorem OwnV.lit {w : World} {base g : Nat} (h : ∃ T, w.heap[g]? = some (.cells #[] T (0, 0)) ∧ T = 3) (hb : base ≤ g) : OwnV w base (.slice (some ⟨g, 0, none⟩) 0 0) [] := by
  obtain ⟨T, h, rfl⟩ := h
  exact ⟨rfl, Or.inr ⟨g, 0, #[], rfl, hb, h, Nat.le_refl _, by unfold maxLen; omega, rfl, rfl⟩⟩
theorem OwnV.own2 {w : World} {base n : Nat} {v : Value} {zs : List Int} (h : OwnV w base v zs) (hn : zs.length = n) (h0 : 0 < n) :
    ∃ g cap, v = .slice (some ⟨g, 0, none⟩) n cap ∧ base ≤ g ∧ OwnI w g zs ∧ n ≤ cap ∧ cap ≤ maxLen := by
  subst hn
  exact h.own h0
theorem OwnV.shape {w : World} {base : Nat} {v : Value} {zs : List Int} (h : OwnV w base v zs) (n : Nat) (hn : zs.length = n) : ∃ ad cap, v = .slice ad n cap ∧ OwnV w base (.slice ad n cap) zs := by
  subst hn
  obtain ⟨ad, cap, e, _⟩ := h.sl
  exact ⟨ad, cap, e, e ▸ h⟩
theorem OwnV.other {w : World} {base : Nat} {v : Value} {zs : List Int} (h : OwnV w base v zs) {a : Addr} (ha : a.block < base) (u : Value) : OwnV (w.setCell a u) base v zs := by
  obtain ⟨h1, h2⟩ := h
  refine ⟨h1, ?_⟩
  rcases h2 with h2 | ⟨g, cap, cur, e1, e2, e3, e4⟩
  · exact Or.inl h2
  · exact Or.inr ⟨g, cap, cur, e1, e2, (Below.heap_setCell _ _ _ _ (by omega)).trans e3, e4⟩
theorem OwnI.other {w : World} {g : Nat} {zs : List Int} (h : OwnI w g zs) {a : Addr} (ha : g ≠ a.block) (u : Value) : OwnI (w.setCell a u) g zs := by
  obtain ⟨r, h⟩ := h
  exact ⟨r, h.other ha u⟩
/-- 'append' of a slice of ints (it is not empty) to a slice of the call's own. -/
theorem wpList_append_ints {w : World} {ops : Array Oper} {rest : List Oper} {o : Oper} {a : Act} {Q : Exit → Act → World → Prop} (hgd : o.guard = none) (s x : Operand) (t : TypeId)
    (ho : o.op = .call { callee := .builtin .append, args := #[s, x], argTypes := #[t, t] }) (ht : Try.prog.underlying t = some (.slice 3))
    (base : Nat) (v : Value) (zs : List Int) (hs : a.eval s = v) (hown : OwnV w base v zs) (ad : Addr) (m c : Nat) (ys : List Int) (hx : a.eval x = .slice (some ad) m c) (hsl : SlI w (some ad) m ys)
    (hn : zs.length + m ≤ 1000000000000) (hbase : base ≤ w.heap.size)
    (h : ∀ v' w', OwnV w' base v' (zs ++ ys) → (∀ w0, Below base w0 w → Below base w0 w') → w.heap.size ≤ w'.heap.size → wpList Try.prog ops Q rest (a.put o.dst v') w') : wpList Try.prog ops Q (o :: rest) a w := by
  obtain ⟨i0, hi, hz0, hz1, hz2⟩ := info_parts info_int
  refine wpList_append_own w hgd s x t ho base 3 i0 (.int .i64 0) 1 8 ht hi hz0 hz1 hz2 rfl (by decide) v zs.length _ hs hown ad m c (ys.map (Value.int .i64)) hx (by simp [hsl.1]) ?_ ?_ ?_ ?_ hbase ?_
  · intro j u hu
    have hj : j < m := by
      have := (List.getElem?_eq_some_iff.1 hu).1
      simpa [hsl.1] using this
    obtain ⟨b', off, e, hc⟩ := hsl.2 j hj
    cases e
    rw [show (⟨b', off, none⟩ : Addr).add j = ⟨b', off + j, none⟩ by simp [Addr.add], hc]
    have hjz : j < ys.length := by rw [hsl.1]; exact hj
    simp [hjz] at hu
    simp [List.getD, hjz, hu]
  · intro u hu; simp at hu; obtain ⟨z, _, rfl⟩ := hu; rfl
  · unfold maxLen; omega
  · omega
  · intro v' w' h1 h2 _
    refine h v' w' ?_ (fun w0 hb => ?_) h2.size
    · unfold OwnV; simpa [hsl.1] using h1
    · exact hb.grown h2 hbase (fun k hk => (World.ownsRow.lt hown k hk).1)

end Go.Proofs.Ytjmlkdopbiedaaa
