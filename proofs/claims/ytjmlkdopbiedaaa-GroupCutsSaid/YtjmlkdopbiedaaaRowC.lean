/-
  A slice of cuts that a call makes and appends to.
-/
import Derived.Test.YtjmlkdopbiedaaaRowN
import Derived.Test.YtjmlkdopbiedaaaGrpB
namespace Go.Proofs.Ytjmlkdopbiedaaa
set_option linter.unusedSimpArgs false
set_option linter.unusedVariables false
open Go.RowKit

theorem info_cut : (Try.prog.info? 44).map (fun i => (i.zero, i.size, i.bytes)) = some (some (.agg #[.int .i64 0, .int .i64 0, .int .i64 0]), 3, 24) := by kernel_rfl

def cutCells : List CutV → List Value
  | [] => []
  | x :: r => .int .i64 x.1 :: .int .i64 x.2.1 :: .int .i64 x.2.2 :: cutCells r
theorem cutCells_length : ∀ l : List CutV, (cutCells l).length = l.length * 3
  | [] => rfl
  | x :: r => by simp [cutCells, cutCells_length r]; omega
theorem cutCells_append : ∀ l m : List CutV, cutCells (l ++ m) = cutCells l ++ cutCells m
  | [], m => rfl
  | x :: r, m => by simp [cutCells, cutCells_append r m]
theorem cutCells_at : ∀ (l : List CutV) (i : Nat) (x : CutV), l[i]? = some x → (cutCells l)[i * 3]? = some (.int .i64 x.1) ∧ (cutCells l)[i * 3 + 1]? = some (.int .i64 x.2.1) ∧ (cutCells l)[i * 3 + 2]? = some (.int .i64 x.2.2)
  | [], i, x, h => by simp at h
  | y :: r, 0, x, h => by simp at h; subst h; simp [cutCells]
  | y :: r, i + 1, x, h => by
    have ih := cutCells_at r i x (by simpa using h)
    rw [show (i + 1) * 3 = i * 3 + 1 + 1 + 1 by omega]
    simpa [cutCells] using ih
theorem cutCells_one {l : List CutV} {u : Value} (h : u ∈ cutCells l) : u.oneCell' = true := by
  induction l with
  | nil => simp [cutCells] at h
  | cons x r ih =>
    simp only [cutCells, List.mem_cons] at h
    rcases h with rfl | rfl | rfl | h
    · rfl
    · rfl
    · rfl
    · exact ih h
/-- v is a slice of the call's own (from block base on) that holds the cuts l. -/
def OwnC (w : World) (base : Nat) (v : Value) (l : List CutV) : Prop := w.ownsRow base 44 3 v l.length (cutCells l)
theorem OwnC.lit {w : World} {base g : Nat} (h : ∃ T, w.heap[g]? = some (.cells #[] T (0, 0)) ∧ T = 44) (hb : base ≤ g) : OwnC w base (.slice (some ⟨g, 0, none⟩) 0 0) [] := by
  obtain ⟨T, h, rfl⟩ := h
  exact ⟨rfl, Or.inr ⟨g, 0, #[], rfl, hb, h, Nat.le_refl _, by unfold maxLen; omega, rfl, rfl⟩⟩
theorem OwnC.step {w w1 : World} {base : Nat} {v : Value} {l : List CutV} (h : OwnC w base v l) (hb : Below w.heap.size w w1) : OwnC w1 base v l := by
  obtain ⟨h1, h2⟩ := h
  refine ⟨h1, ?_⟩
  rcases h2 with h2 | ⟨g, cap, cur, e1, e2, e3, e4⟩
  · exact Or.inl h2
  · exact Or.inr ⟨g, cap, cur, e1, e2, (hb.block g (Array.getElem?_eq_some_iff.1 e3).1).trans e3, e4⟩
theorem OwnC.alloc {w : World} {base : Nat} {v : Value} {l : List CutV} (h : OwnC w base v l) (o : Obj) : OwnC (w.alloc o) base v l := World.ownsRow.alloc h o
theorem OwnC.shape {w : World} {base : Nat} {v : Value} {l : List CutV} (h : OwnC w base v l) (n : Nat) (hn : l.length = n) : ∃ ad cap, v = .slice ad n cap ∧ OwnC w base (.slice ad n cap) l := by
  subst hn
  obtain ⟨h1, h2⟩ := h
  rcases h2 with ⟨rfl, h2⟩ | ⟨g, cap, cur, rfl, e2⟩
  · refine ⟨none, 0, by rw [h2], h1, Or.inl ⟨by rw [h2], h2⟩⟩
  · exact ⟨_, cap, rfl, h1, Or.inr ⟨g, cap, cur, rfl, e2⟩⟩
/-- Its block: what the block holds; nothing of it lies below base. -/
theorem OwnC.own {w : World} {base : Nat} {ad : Option Addr} {n cap : Nat} {l : List CutV} (h : OwnC w base (.slice ad n cap) l) (h0 : 0 < l.length) : ∃ g, ad = some ⟨g, 0, none⟩ ∧ base ≤ g ∧ g < w.heap.size ∧ Sl3 w ad n l ∧ n ≤ cap ∧ cap ≤ maxLen := by
  obtain ⟨h1, h2⟩ := h
  rcases h2 with ⟨_, h2⟩ | ⟨g, cap', cur, e1, e2, e3, e4, e5, e6, e7⟩
  · omega
  · simp only [Value.slice.injEq] at e1
    obtain ⟨rfl, rfl, rfl⟩ := e1
    refine ⟨g, rfl, e2, (Array.getElem?_eq_some_iff.1 e3).1, ⟨rfl, fun i x hx => ?_⟩, e4, e5⟩
    have hil : i < l.length := (List.getElem?_eq_some_iff.1 hx).1
    obtain ⟨c0, c1, c2⟩ := cutCells_at l i x hx
    have key : ∀ j u, (cutCells l)[j]? = some u → w.cell? ⟨g, 0 + j, none⟩ = some u := fun j u hj => by
      rw [← e7] at hj
      have hj2 : cur.toList[j]? = some u := by
        rw [List.getElem?_take] at hj
        split at hj
        · exact hj
        · cases hj
      simp only [World.cell?, e3, Nat.zero_add]
      simpa using hj2
    exact ⟨g, 0, rfl, key _ _ c0, key _ _ c1, key _ _ c2⟩
theorem Sl3.cells {w : World} {ad : Addr} {n : Nat} {l : List CutV} (h : Sl3 w (some ad) n l) : ∀ j u, (cutCells l)[j]? = some u → w.cell? (ad.add j) = some u := by
  intro j u hj
  have hjl : j < l.length * 3 := by rw [← cutCells_length]; exact (List.getElem?_eq_some_iff.1 hj).1
  have hi : j / 3 < l.length := by omega
  obtain ⟨b, off, e, h0, h1, h2⟩ := h.2 (j / 3) l[j / 3] (List.getElem?_eq_getElem hi)
  obtain ⟨c0, c1, c2⟩ := cutCells_at l (j / 3) l[j / 3] (List.getElem?_eq_getElem hi)
  simp only [Option.some.injEq] at e
  subst e
  rw [show (⟨b, off, none⟩ : Addr).add j = ⟨b, off + j, none⟩ by simp [Addr.add]]
  rcases (show j = j / 3 * 3 ∨ j = j / 3 * 3 + 1 ∨ j = j / 3 * 3 + 2 by omega) with e | e | e
  · have hj' := hj; rw [e, c0] at hj'; rw [← hj']; rw [show off + j = off + j / 3 * 3 by omega]; exact h0
  · have hj' := hj; rw [e, c1] at hj'; rw [← hj']; rw [show off + j = off + j / 3 * 3 + 1 by omega]; exact h1
  · have hj' := hj; rw [e, c2] at hj'; rw [← hj']; rw [show off + j = off + j / 3 * 3 + 2 by omega]; exact h2
theorem Sl3.one {w : World} {g : Nat} {a b c : Int} (h : Row w g [.int .i64 a, .int .i64 b, .int .i64 c]) : Sl3 w (some ⟨g, 0, none⟩) 1 [(a, b, c)] := by
  refine ⟨rfl, fun i x hx => ?_⟩
  cases i with
  | zero => simp at hx; subst hx; exact ⟨g, 0, rfl, h.cell 0 rfl, h.cell 1 rfl, h.cell 2 rfl⟩
  | succ i => simp at hx
theorem Sl3.of_block {w w' : World} {g n : Nat} {l : List CutV} (h : Sl3 w (some ⟨g, 0, none⟩) n l) (e : w'.heap[g]? = w.heap[g]?) : Sl3 w' (some ⟨g, 0, none⟩) n l := by
  refine ⟨h.1, fun i x hx => ?_⟩
  obtain ⟨b, off, ha, h1, h2, h3⟩ := h.2 i x hx
  simp only [Option.some.injEq, Addr.mk.injEq] at ha
  obtain ⟨rfl, rfl, _⟩ := ha
  exact ⟨g, 0, rfl, by rw [← h1]; simp only [World.cell?, e], by rw [← h2]; simp only [World.cell?, e], by rw [← h3]; simp only [World.cell?, e]⟩
theorem run_append_none_c {P : Program} {w : World} (base : Nat) (t ty e : TypeId) (i : TypeInfo) (size c : Nat) (ht : P.underlying t = some (.slice e)) (hi : P.info? e = some i)
    (v : Value) (n : Nat) (xs : List Value) (hown : w.ownsRow base e size v n xs) :
    (Builtin.append_ #[t, t] ty #[v, .slice none 0 c]).run P w = .ok v w := by
  rcases hown.2 with ⟨rfl, rfl⟩ | ⟨g, cap, cur, rfl, _, _, hnc, _⟩
  · simp [Builtin.append_, run_underlying ht, sizeOf, typeInfo, hi, Builtin.lenOf, Builtin.firstCells]
  · simp [Builtin.append_, run_underlying ht, sizeOf, typeInfo, hi, Builtin.lenOf, Builtin.firstCells, hnc, storeCells]
/-- 'append' of a slice of cuts to a slice of the call's own. -/
theorem wpList_append_cuts {w : World} {ops : Array Oper} {rest : List Oper} {o : Oper} {a : Act} {Q : Exit → Act → World → Prop} (hgd : o.guard = none) (s x : Operand) (t : TypeId)
    (ho : o.op = .call { callee := .builtin .append, args := #[s, x], argTypes := #[t, t] }) (ht : Try.prog.underlying t = some (.slice 44))
    (base : Nat) (v : Value) (l : List CutV) (hs : a.eval s = v) (hown : OwnC w base v l) (ca : Option Addr) (m c : Nat) (ys : List CutV) (hx : a.eval x = .slice ca m c) (hsl : Sl3 w ca m ys)
    (hn : l.length + m ≤ 1000000000) (hbase : base ≤ w.heap.size)
    (h : ∀ v' w', OwnC w' base v' (l ++ ys) → (∀ w0, Below base w0 w → Below base w0 w') → w.heap.size ≤ w'.heap.size → wpList Try.prog ops Q rest (a.put o.dst v') w') : wpList Try.prog ops Q (o :: rest) a w := by
  obtain ⟨i0, hi, hz0, hz1, hz2⟩ := info_parts info_cut
  cases ca with
  | none =>
    have hm : m = 0 := by
      rcases Nat.eq_zero_or_pos m with e | e
      · exact e
      · obtain ⟨_, _, _, _, _, _, _, _, e2, _⟩ := hsl.get e
        cases e2
    subst hm
    have hy : ys = [] := List.eq_nil_of_length_eq_zero hsl.1
    subst hy
    refine wpList_plain hgd fun K hK => ?_
    have hrun := run_append_none_c (P := Try.prog) (w := w) base t o.type 44 i0 3 c ht hi v _ _ hown
    unfold Oper.wp
    simp [execOp, ho, resolve, invoke, builtin, hs, hx, hrun, Result.andThen]
    exact hK _ _ (h v w (by rw [List.append_nil]; exact hown) (fun _ hb => hb) (Nat.le_refl _))
  | some ad =>
    refine wpList_append_own w hgd s x t ho base 44 i0 (.agg #[.int .i64 0, .int .i64 0, .int .i64 0]) 3 24 ht hi hz0 hz1 hz2 rfl (by decide) v l.length _ hs hown ad m c (cutCells ys) hx (by rw [cutCells_length, hsl.1]) hsl.cells (fun u hu => cutCells_one hu) ?_ ?_ hbase ?_
    · unfold maxLen; omega
    · omega
    · intro v' w' h1 h2 _
      refine h v' w' ?_ (fun w0 hb => ?_) h2.size
      · unfold OwnC; rw [cutCells_append, List.length_append, hsl.1]; exact h1
      · exact hb.grown h2 hbase (fun k hk => (World.ownsRow.lt hown k hk).1)

end Go.Proofs.Ytjmlkdopbiedaaa
