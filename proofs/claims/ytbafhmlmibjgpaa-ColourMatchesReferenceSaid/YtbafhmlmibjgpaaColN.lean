/-
  Slices of spans that a call makes and appends to; plain facts: one span more that begins latest, the spans in the opposite order, the spans without the first one.
-/
import Derived.Test.YtbafhmlmibjgpaaColM
import Derived.Maps.AppendAt
namespace Go.Proofs.Ytbafhmlmibjgpaa
set_option linter.unusedSimpArgs false
set_option linter.unusedVariables false
open Go.RowKit

theorem info_span : (Try.prog.info? 36).map (fun i => (i.zero, i.size, i.bytes)) = some (some (.agg #[.int .i64 0, .int .i64 0]), 2, 16) := by kernel_rfl
def spanCells : List SpV → List Value
  | [] => []
  | x :: r => .int .i64 x.1 :: .int .i64 x.2 :: spanCells r
theorem spanCells_length : ∀ l : List SpV, (spanCells l).length = l.length * 2
  | [] => rfl
  | x :: r => by simp [spanCells, spanCells_length r]; omega
theorem spanCells_append : ∀ l m : List SpV, spanCells (l ++ m) = spanCells l ++ spanCells m
  | [], m => rfl
  | x :: r, m => by simp [spanCells, spanCells_append r m]
theorem spanCells_at : ∀ (l : List SpV) (i : Nat) (x : SpV), l[i]? = some x → (spanCells l)[i * 2]? = some (.int .i64 x.1) ∧ (spanCells l)[i * 2 + 1]? = some (.int .i64 x.2)
  | [], i, x, h => by simp at h
  | y :: r, 0, x, h => by simp at h; subst h; simp [spanCells]
  | y :: r, i + 1, x, h => by
    have ih := spanCells_at r i x (by simpa using h)
    rw [show (i + 1) * 2 = i * 2 + 1 + 1 by omega]
    simpa [spanCells] using ih
theorem spanCells_one {l : List SpV} {u : Value} (h : u ∈ spanCells l) : u.oneCell' = true := by
  induction l with
  | nil => simp [spanCells] at h
  | cons x r ih =>
    simp only [spanCells, List.mem_cons] at h
    rcases h with rfl | rfl | h
    · rfl
    · rfl
    · exact ih h
theorem spanCells_get (l : List SpV) (j : Nat) (u : Value) (h : (spanCells l)[j]? = some u) : ∃ i x, l[i]? = some x ∧ ((j = i * 2 ∧ u = .int .i64 x.1) ∨ (j = i * 2 + 1 ∧ u = .int .i64 x.2)) := by
  have hj : j < l.length * 2 := by rw [← spanCells_length]; exact (List.getElem?_eq_some_iff.1 h).1
  have hi : j / 2 < l.length := by omega
  obtain ⟨c0, c1⟩ := spanCells_at l (j / 2) l[j / 2] (List.getElem?_eq_getElem hi)
  refine ⟨j / 2, l[j / 2], List.getElem?_eq_getElem hi, ?_⟩
  rcases Nat.mod_two_eq_zero_or_one j with e | e
  · have e2 : j / 2 * 2 = j := by omega
    rw [e2, h] at c0
    exact Or.inl ⟨e2.symm, by injection c0⟩
  · have e2 : j / 2 * 2 + 1 = j := by omega
    rw [e2, h] at c1
    exact Or.inr ⟨e2.symm, by injection c1⟩
/-- v is a slice of the call's own (from block base on) that holds the spans l. -/
def OwnP (w : World) (base : Nat) (v : Value) (l : List SpV) : Prop := w.ownsRow base 36 2 v l.length (spanCells l)
theorem OwnP.nil (w : World) (base : Nat) : OwnP w base (.slice none 0 0) [] := World.ownsRow_nil _ _ _ _
theorem OwnP.step {w w1 : World} {base : Nat} {v : Value} {l : List SpV} (h : OwnP w base v l) (hb : Below w.heap.size w w1) : OwnP w1 base v l := by
  obtain ⟨h1, h2⟩ := h
  refine ⟨h1, ?_⟩
  rcases h2 with h2 | ⟨g, cap, cur, e1, e2, e3, e4⟩
  · exact Or.inl h2
  · exact Or.inr ⟨g, cap, cur, e1, e2, (hb.block g (Array.getElem?_eq_some_iff.1 e3).1).trans e3, e4⟩
theorem Row.grownP {w w' : World} {v : Value} {g : Nat} {cs : List Value} (h : Row w g cs) (hg : w.grownBy w' v.ownBlock) (hne : ∀ k, v.ownBlock = some k → k ≠ g) : Row w' g cs :=
  h.of_block (hg.block g h.lt (fun e => hne g e.symm rfl))
theorem OwnP.alloc {w : World} {base : Nat} {v : Value} {l : List SpV} (h : OwnP w base v l) (o : Obj) : OwnP (w.alloc o) base v l := World.ownsRow.alloc h o
theorem OwnP.shape {w : World} {base : Nat} {v : Value} {l : List SpV} (h : OwnP w base v l) (n : Nat) (hn : l.length = n) : ∃ ad cap, v = .slice ad n cap ∧ OwnP w base (.slice ad n cap) l := by
  subst hn
  obtain ⟨h1, h2⟩ := h
  rcases h2 with ⟨rfl, h2⟩ | ⟨g, cap, cur, rfl, e2⟩
  · refine ⟨none, 0, by rw [h2], h1, Or.inl ⟨by rw [h2], h2⟩⟩
  · exact ⟨_, cap, rfl, h1, Or.inr ⟨g, cap, cur, rfl, e2⟩⟩
theorem OwnP.sl {w : World} {base : Nat} {ad : Option Addr} {n cap : Nat} {l : List SpV} (h : OwnP w base (.slice ad n cap) l) : SlP w ad n l ∧ n ≤ cap ∧ cap ≤ maxLen := by
  obtain ⟨h1, h2⟩ := h
  rcases h2 with ⟨h0, h2⟩ | ⟨g, cap', cur, e1, e2, e3, e4, e5, e6, e7⟩
  · simp only [Value.slice.injEq] at h0
    obtain ⟨rfl, rfl, rfl⟩ := h0
    have : l = [] := List.eq_nil_of_length_eq_zero h2
    subst this
    exact ⟨SlP.nil _ _, Nat.le_refl _, by unfold maxLen; omega⟩
  · simp only [Value.slice.injEq] at e1
    obtain ⟨rfl, rfl, rfl⟩ := e1
    refine ⟨⟨rfl, fun i x hx => ?_⟩, e4, e5⟩
    obtain ⟨c0, c1⟩ := spanCells_at l i x hx
    have key : ∀ j u, (spanCells l)[j]? = some u → w.cell? ⟨g, 0 + j, none⟩ = some u := fun j u hj => by
      rw [← e7] at hj
      have hj2 : cur.toList[j]? = some u := by
        rw [List.getElem?_take] at hj
        split at hj
        · exact hj
        · cases hj
      simp only [World.cell?, e3, Nat.zero_add]
      simpa using hj2
    exact ⟨g, 0, rfl, key _ _ c0, key _ _ c1⟩
theorem SlP.cells {w : World} {b : Addr} {n : Nat} {l : List SpV} (h : SlP w (some b) n l) (j : Nat) (u : Value) (hj : (spanCells l)[j]? = some u) : w.cell? (b.add j) = some u := by
  obtain ⟨i, x, hx, hu⟩ := spanCells_get l j u hj
  obtain ⟨b', off, e, c0, c1⟩ := h.2 i x hx
  cases e
  rcases hu with ⟨rfl, rfl⟩ | ⟨rfl, rfl⟩
  · rw [show (⟨b', off, none⟩ : Addr).add (i * 2) = ⟨b', off + i * 2, none⟩ by simp [Addr.add], c0]
  · rw [show (⟨b', off, none⟩ : Addr).add (i * 2 + 1) = ⟨b', off + i * 2 + 1, none⟩ by simp [Addr.add, Nat.add_assoc], c1]
theorem SlP.none_nil {w : World} {n : Nat} {l : List SpV} (h : SlP w none n l) : l = [] ∧ n = 0 := by
  have : l = [] := by
    cases l with
    | nil => rfl
    | cons x r => obtain ⟨_, _, e, _⟩ := h.2 0 x rfl; cases e
  exact ⟨this, by rw [← h.1, this]; rfl⟩
theorem SlP.tail {w : World} {b off n : Nat} {x : SpV} {r : List SpV} (h : SlP w (some ⟨b, off, none⟩) (n + 1) (x :: r)) : SlP w (some ⟨b, off + 2, none⟩) n r := by
  refine ⟨by have := h.1; simpa using this, fun i y hy => ?_⟩
  obtain ⟨b', off', e, c0, c1⟩ := h.2 (i + 1) y (by simpa using hy)
  cases e
  exact ⟨_, _, rfl, by rw [← c0, show off + (i + 1) * 2 = off + 2 + i * 2 by omega], by rw [← c1, show off + (i + 1) * 2 + 1 = off + 2 + i * 2 + 1 by omega]⟩

/-- 'append' of one span that lies in a block of its own. -/
theorem wpList_append_span {w : World} {ops : Array Oper} {rest : List Oper} {o : Oper} {a : Act} {Q : Exit → Act → World → Prop} (hgd : o.guard = none) (s x : Operand) (t : TypeId)
    (ho : o.op = .call { callee := .builtin .append, args := #[s, x], argTypes := #[t, t] }) (ht : Try.prog.underlying t = some (.slice 36))
    (base : Nat) (v : Value) (l : List SpV) (hs : a.eval s = v) (hown : OwnP w base v l) (g c : Nat) (y : SpV) (hx : a.eval x = .slice (some ⟨g, 0, none⟩) 1 c)
    (hr : Row w g [.int .i64 y.1, .int .i64 y.2])
    (hn : l.length ≤ 1000000000) (hbase : base ≤ w.heap.size)
    (h : ∀ v' w', OwnP w' base v' (l ++ [y]) → (∀ w0, Below base w0 w → Below base w0 w') → w.heap.size ≤ w'.heap.size → wpList Try.prog ops Q rest (a.put o.dst v') w') : wpList Try.prog ops Q (o :: rest) a w := by
  obtain ⟨i0, hi, hz0, hz1, hz2⟩ := info_parts info_span
  refine wpList_append_own_at w hgd s x t ho base 36 i0 (.agg #[.int .i64 0, .int .i64 0]) 2 16 ht hi hz0 hz1 hz2 rfl (by decide) v l.length _ hs hown ⟨g, 0, none⟩ 1 c (spanCells [y]) hx rfl ?_ (fun u hu => spanCells_one hu) ?_ ?_ hbase ?_
  · intro j u hj
    match j, hj with
    | 0, hj => simp [spanCells] at hj; subst hj; exact hr.cell 0 rfl
    | 1, hj => simp [spanCells] at hj; subst hj; exact hr.cell 1 rfl
    | j + 2, hj => simp [spanCells] at hj
  · unfold maxLen; omega
  · omega
  · intro v' w' h1 h2 _ _
    refine h v' w' ?_ (fun w0 hb => ?_) h2.size
    · unfold OwnP; rw [spanCells_append, List.length_append]; exact h1
    · exact hb.grown h2 hbase (fun k hk => (World.ownsRow.lt hown k hk).1)

/-- 'append' of one span as a step of a drawn region. -/
theorem step_app_span {ops : Array Oper} {o : Oper} {a : Act} {w : World} {K : Act → World → Prop} {Q : Exit → Act → World → Prop} {E : Prop}
    (hg : o.guard = none) (s x : Operand) (t : TypeId) (hop : o.op = Op.call { callee := Callee.builtin Builtin.append, args := #[s, x], argTypes := #[t, t] }) (ht : Try.prog.underlying t = some (.slice 36))
    (base : Nat) (v : Value) (l : List SpV) (hs : a.eval s = v) (hown : OwnP w base v l) (g c : Nat) (y : SpV) (hx : a.eval x = .slice (some ⟨g, 0, none⟩) 1 c)
    (hr : Row w g [.int .i64 y.1, .int .i64 y.2]) (hn : l.length ≤ 1000000000) (hbase : base ≤ w.heap.size)
    (hK : ∀ v' w', OwnP w' base v' (l ++ [y]) → (∀ w0, Below base w0 w → Below base w0 w') → w.grownBy w' v.ownBlock → K (a.put o.dst v') w') :
    if Region.wanted o (yielded ops a.tmps) = true then Oper.wp Try.prog o a w K Q else E := by
  obtain ⟨i0, hi, hz0, hz1, hz2⟩ := info_parts info_span
  have hw : Region.wanted o (yielded ops a.tmps) = true := by simp [Region.wanted, hg]
  rw [if_pos hw]
  obtain ⟨v', w', hrun, r1, r2, _⟩ := run_append_own_at (P := Try.prog) w base t o.type 36 i0 (.agg #[.int .i64 0, .int .i64 0]) 2 16 ht hi hz0 hz1 hz2 rfl (by decide) v l.length _ hown ⟨g, 0, none⟩ 1 c (spanCells [y]) rfl
    (fun j u hj => by
      match j, hj with
      | 0, hj => simp [spanCells] at hj; subst hj; exact hr.cell 0 rfl
      | 1, hj => simp [spanCells] at hj; subst hj; exact hr.cell 1 rfl
      | j + 2, hj => simp [spanCells] at hj) (fun u hu => spanCells_one hu) (by unfold maxLen; omega) (by omega) hbase
  unfold Oper.wp
  simp [execOp, hop, resolve, invoke, builtin, hs, hx, hrun, Result.andThen]
  refine hK v' w' ?_ (fun w0 hb => hb.grown r2 hbase (fun k hk => (World.ownsRow.lt hown k hk).1)) r2
  unfold OwnP
  rw [spanCells_append, List.length_append]
  exact r1
/-- 'append' of a slice of spans to an empty slice of the call's own. -/
theorem step_app_spans {ops : Array Oper} {o : Oper} {a : Act} {w : World} {K : Act → World → Prop} {Q : Exit → Act → World → Prop} {E : Prop}
    (hg : o.guard = none) (s x : Operand) (t : TypeId) (hop : o.op = Op.call { callee := Callee.builtin Builtin.append, args := #[s, x], argTypes := #[t, t] }) (ht : Try.prog.underlying t = some (.slice 36))
    (base : Nat) (v : Value) (hs : a.eval s = v) (hown : OwnP w base v []) (ad : Option Addr) (m c : Nat) (ys : List SpV) (hx : a.eval x = .slice ad m c) (hsl : SlP w ad m ys)
    (hn : m ≤ 1000000000) (hbase : base ≤ w.heap.size)
    (hK : ∀ v' w', OwnP w' base v' ys → (∀ w0, Below base w0 w → Below base w0 w') → w.grownBy w' v.ownBlock → K (a.put o.dst v') w') :
    if Region.wanted o (yielded ops a.tmps) = true then Oper.wp Try.prog o a w K Q else E := by
  obtain ⟨i0, hi, hz0, hz1, hz2⟩ := info_parts info_span
  have hw : Region.wanted o (yielded ops a.tmps) = true := by simp [Region.wanted, hg]
  rw [if_pos hw]
  have key : ∃ v' w', (Builtin.append_ #[t, t] o.type #[v, .slice ad m c]).run Try.prog w = .ok v' w' ∧ OwnP w' base v' ys ∧ (∀ w0, Below base w0 w → Below base w0 w') ∧ w.grownBy w' v.ownBlock := by
    cases ad with
    | none =>
      obtain ⟨rfl, rfl⟩ := hsl.none_nil
      refine ⟨v, w, ?_, hown, fun _ h => h, ⟨rfl, rfl, rfl, Nat.le_refl _, fun _ _ _ => rfl⟩⟩
      obtain ⟨ad2, cap2, rfl, ho2⟩ := hown.shape 0 rfl
      cases ad2 with
      | none => simp [Builtin.append_, run_underlying ht, sizeOf, typeInfo, hi, Builtin.lenOf, Builtin.firstCells, loadCells, loadCellsFrom]
      | some q => simp [Builtin.append_, run_underlying ht, sizeOf, typeInfo, hi, Builtin.lenOf, Builtin.firstCells, loadCells, loadCellsFrom, storeCells]
    | some b =>
      obtain ⟨v', w', hrun, r1, r2, _⟩ := run_append_own_at (P := Try.prog) w base t o.type 36 i0 (.agg #[.int .i64 0, .int .i64 0]) 2 16 ht hi hz0 hz1 hz2 rfl (by decide) v 0 _ hown b m c (spanCells ys) (by rw [spanCells_length, hsl.1])
        (fun j u hj => hsl.cells j u hj) (fun u hu => spanCells_one hu) (by unfold maxLen; omega) (by omega) hbase
      refine ⟨v', w', hrun, ?_, fun w0 hb => hb.grown r2 hbase (fun k hk => (World.ownsRow.lt hown k hk).1), r2⟩
      unfold OwnP
      rw [Nat.zero_add] at r1
      rw [hsl.1]
      exact r1
  obtain ⟨v', w', hrun, h1, h2, h3⟩ := key
  unfold Oper.wp
  simp [execOp, hop, resolve, invoke, builtin, hs, hx, hrun, Result.andThen]
  exact hK v' w' h1 h2 h3
/-- The empty slice that is made for '[]api.Span{}'. -/
theorem OwnP.made (w : World) : OwnP (w.alloc (.cells #[] 36)) w.heap.size (.slice (some ⟨w.heap.size, 0, none⟩) 0 0) [] :=
  World.ownsRow_made w #[] 0 (Nat.le_refl _) (by unfold maxLen; omega) rfl

theorem SlV.pre {w : World} {ad : Option Addr} {n cp : Nat} {zs ys : List Int} (h : SlV w (.slice ad (n + 1) cp) zs) (hn : zs.length = n + 1) (hy : zs.take n = ys) : SlV w (.slice ad n cp) ys := by
  subst hy
  obtain ⟨ad', cap, e, h1, h2, h3⟩ := h
  simp only [Value.slice.injEq] at e
  obtain ⟨rfl, _, rfl⟩ := e
  have hl : (zs.take n).length = n := by rw [List.length_take]; omega
  refine ⟨ad, cp, by rw [hl], ⟨rfl, fun i hi => ?_⟩, by omega, h3⟩
  obtain ⟨b, off, e2, hc⟩ := h1.2 i (by omega)
  refine ⟨b, off, e2, ?_⟩
  rw [hc]
  simp [List.getD, List.getElem?_take, show i < n by omega]

/-! Plain facts. -/
def hasS (t : Int) (x : SpV) : Bool := decide (x.1 ≤ t) && decide (t < x.2)
theorem onK_count (l : List SpV) (t : Int) : ∀ k, k ≤ l.length → (onK l t k).length = ((l.take k).filter (hasS t)).length
  | 0, _ => by simp [onK, upto]
  | k + 1, h => by
    have ih := onK_count l t k (by omega)
    have hk : k < l.length := by omega
    have e : hasP l t k = hasS t l[k] := by
      unfold hasP hasS frP unP
      simp [List.getD, hk]
    rw [onK_succ, List.take_succ_eq_append_getElem hk, List.filter_append, e]
    cases hb : hasS t l[k] <;> simp [ih, hb]
theorem cnt_count (l : List SpV) (t : Int) : cntP l t = (l.filter (hasS t)).length := by
  unfold cntP onL
  rw [onK_count l t _ (Nat.le_refl _), List.take_length]
theorem chkE_of {l : List SpV} (h : OkS l) (hl : l.length ≤ 3000) : chkE l = 0 := by
  unfold chkE
  rw [if_neg (by omega), if_neg]
  simp only [List.any_eq_true, not_exists, not_and]
  intro x hx
  have := h x hx
  simp [wrB]; omega
theorem OkS.reverse {l : List SpV} (h : OkS l) : OkS l.reverse := fun x hx => h x (List.mem_reverse.1 hx)
theorem OkS.tail {x : SpV} {l : List SpV} (h : OkS (x :: l)) : OkS l := fun y hy => h y (List.mem_cons_of_mem _ hy)
theorem col_reverse {l : List SpV} (h : OkS l) : (colE l.reverse).length = (colE l).length := by
  have e : ∀ t, cntP l.reverse t = cntP l t := fun t => by rw [cnt_count, cnt_count, List.filter_reverse, List.length_reverse]
  refine Nat.le_antisymm ?_ ?_
  · rcases col_le_cnt h.reverse with h0 | ⟨t, ht⟩
    · omega
    · rw [e] at ht; exact Nat.le_trans ht (cnt_le_col h t)
  · rcases col_le_cnt h with h0 | ⟨t, ht⟩
    · omega
    · rw [← e] at ht; exact Nat.le_trans ht (cnt_le_col h.reverse t)
theorem col_tail {x : SpV} {l : List SpV} (h : OkS (x :: l)) : (colE l).length ≤ (colE (x :: l)).length ∧ (colE (x :: l)).length ≤ (colE l).length + 1 := by
  have e : ∀ t, cntP l t ≤ cntP (x :: l) t ∧ cntP (x :: l) t ≤ cntP l t + 1 := fun t => by
    rw [cnt_count, cnt_count, List.filter_cons]
    split <;> simp
  constructor
  · rcases col_le_cnt h.tail with h0 | ⟨t, ht⟩
    · omega
    · have := (e t).1; have := cnt_le_col h t; omega
  · rcases col_le_cnt h with h0 | ⟨t, ht⟩
    · omega
    · have := (e t).2; have := cnt_le_col h.tail t; omega

theorem frP_app {l : List SpV} {x : SpV} {i : Int} (h0 : 0 ≤ i) (h1 : i < l.length) : frP (l ++ [x]) i = frP l i ∧ unP (l ++ [x]) i = unP l i := by
  have : i.toNat < l.length := by omega
  unfold frP unP
  simp [List.getD, List.getElem?_append_left this]
theorem frP_new (l : List SpV) (x : SpV) : frP (l ++ [x]) l.length = x.1 ∧ unP (l ++ [x]) l.length = x.2 := by
  unfold frP unP
  simp [List.getD]
theorem srtI_of_pairwise {key : Int → Int} {zs : List Int} {n : Nat} (h : zs.Pairwise (ltK key)) (hn : zs.length = n) : SrtI key zs 0 n := fun i j _ hij hj => by
  rw [List.pairwise_iff_getElem] at h
  have := h i j (by omega) (by omega) hij
  simpa [List.getD, show i < zs.length by omega, show j < zs.length by omega] using this
theorem upto_snoc (n : Nat) : upto (n + 1) = upto n ++ [(n : Int)] := upto_succ n
/-- One span more that begins where the latest one begins, or later. -/
theorem ordL_snoc {l : List SpV} {x : SpV} (h : ∀ y ∈ l, y.1 ≤ x.1) : ordL (l ++ [x]) = ordL l ++ [(l.length : Int)] := by
  have hl : (l ++ [x]).length = l.length + 1 := by simp
  refine (ordL_unique ?_ ?_).symm
  · rw [hl, upto_snoc]
    exact (ordL_perm l).append_right _
  · have hs : (ordL l ++ [(l.length : Int)]).Pairwise (ltK (frP (l ++ [x]))) := by
      rw [List.pairwise_append]
      refine ⟨?_, by simp, fun a ha b hb => ?_⟩
      · refine (ordL_sorted l).imp_of_mem (fun ha hb hab => ?_)
        obtain ⟨a0, a1⟩ := ordL_mem.1 ha
        obtain ⟨b0, b1⟩ := ordL_mem.1 hb
        unfold ltK at hab ⊢
        rw [(frP_app a0 a1).1, (frP_app b0 b1).1]
        exact hab
      · simp only [List.mem_singleton] at hb
        subst hb
        obtain ⟨a0, a1⟩ := ordL_mem.1 ha
        unfold ltK
        rw [(frP_app a0 a1).1, (frP_new l x).1]
        have hi : a.toNat < l.length := by omega
        have : frP l a ≤ x.1 := by
          unfold frP
          simp only [List.getD, List.getElem?_eq_getElem hi, Option.getD_some]
          exact h _ (List.getElem_mem hi)
        omega
    exact srtI_of_pairwise hs (by rw [List.length_append, ordL_length, hl]; rfl)
theorem colS_snoc {l : List SpV} {x : SpV} {E O : List Int} {i : Int} (h0 : 0 ≤ i) (h1 : i < l.length) (hO : O.length = l.length) : colS (l ++ [x]) (E, O ++ [0]) i = ((colS l (E, O) i).1, (colS l (E, O) i).2 ++ [0]) := by
  have hi : i.toNat < O.length := by omega
  unfold colS
  rw [(frP_app h0 h1).1, (frP_app h0 h1).2]
  simp only []
  split <;> simp [List.set_append, hi]
theorem colK_snoc {l : List SpV} {x : SpV} (h : ∀ y ∈ l, y.1 ≤ x.1) : ∀ k, k ≤ l.length → colK (l ++ [x]) k = ((colK l k).1, (colK l k).2 ++ [0])
  | 0, _ => by simp [colK, List.replicate_succ']
  | k + 1, hk => by
    have hkl : k < (l ++ [x]).length := by simp; omega
    have e : (ordL (l ++ [x])).getD k 0 = (ordL l).getD k 0 := by
      have hk2 : k < (ordL l).length := by rw [ordL_length]; omega
      rw [ordL_snoc h]
      simp [List.getD, List.getElem?_append_left hk2]
    have ho := oL_in (l := l) (k := k) (by omega)
    have hle := (colK_length l k (by omega)).2
    rw [colK_succ hkl, colK_succ (show k < l.length by omega), e, colK_snoc h k (by omega)]
    exact colS_snoc ho.1 ho.2 hle
theorem colO_snoc {l : List SpV} {x : SpV} (h : ∀ y ∈ l, y.1 ≤ x.1) : (colO (l ++ [x])).take l.length = colO l ∧ (colO (l ++ [x])).length = l.length + 1 := by
  have hl : (l ++ [x]).length = l.length + 1 := by simp
  have hn : l.length < (l ++ [x]).length := by omega
  have hle : (colO l).length = l.length := (colK_length l l.length (Nat.le_refl _)).2
  refine ⟨?_, by have := (colK_length (l ++ [x]) _ (Nat.le_refl _)).2; rw [hl] at this; unfold colO; rw [hl]; exact this⟩
  have e : (ordL (l ++ [x])).getD l.length 0 = (l.length : Int) := by
    rw [ordL_snoc h]
    simp [List.getD, ordL_length]
  unfold colO
  rw [hl, colK_succ hn, colK_snoc h _ (Nat.le_refl _), e]
  have e2 : ∀ c : Int, (((colK l l.length).2 ++ [0]).set (Int.toNat (l.length : Int)) c).take l.length = (colK l l.length).2 := fun c => by
    have hle2 : (colK l l.length).2.length = l.length := hle
    rw [Int.toNat_natCast, List.set_append]
    simp [hle2, List.take_append]
  unfold colS
  split <;> exact e2 _
end Go.Proofs.Ytbafhmlmibjgpaa
