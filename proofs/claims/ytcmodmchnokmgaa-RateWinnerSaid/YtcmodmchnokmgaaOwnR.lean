/-
  Slices of expressions, of rates, that a call makes and appends to.
-/
import Derived.Test.YtcmodmchnokmgaaMA
import Derived.Test.YtcmodmchnokmgaaMC
import Derived.Maps.AppendAt
import Derived.Deep.AppendLies
namespace Go.Proofs.Ytcmodmchnokmgaa
set_option linter.unusedSimpArgs false
set_option linter.unusedVariables false
open Go.RowKit

theorem info_E : (Try.prog.info? 24).map (fun i => (i.zero, i.size, i.bytes)) = some (some (.agg #[.int .i64 0, .int .i64 0, .slice none 0 0]), 3, 40) := by kernel_rfl
theorem info_R : (Try.prog.info? 30).map (fun i => (i.zero, i.size, i.bytes)) = some (some (.agg #[.int .i64 0, .int .i64 0, .int .i64 0, .int .i64 0, .int .i64 0, .int .i64 0, .int .i64 0, .int .i64 0, .int .i64 0, .int .i64 0, .int .i64 0, .int .i64 0, .slice none 0 0, .int .i64 0, .int .i64 0, .slice none 0 0]), 16, 160) := by kernel_rfl
theorem flatE_at (ks : List Ex) (j : Nat) (x : Ex) (i : Nat) (h : ks[j]? = some x) (hi : i < 3) : (ks.flatMap Ex.cells)[j * 3 + i]? = x.cells[i]? := flat_at ks j x i h hi
theorem addr_add (b off k : Nat) : (⟨b, off, none⟩ : Addr).add k = ⟨b, off + k, none⟩ := by simp [Addr.add]
theorem Ex.cells_one {x : Ex} {u : Value} (h : u ∈ x.cells) : u.oneCell' = true := by
  simp only [Ex.cells, List.mem_cons, List.not_mem_nil, or_false] at h
  rcases h with rfl | rfl | rfl <;> rfl
theorem RateV.cells_one {x : RateV} {u : Value} (h : u ∈ x.cells) : u.oneCell' = true := by
  simp only [RateV.cells, List.mem_cons, List.not_mem_nil, or_false] at h
  rcases h with rfl | rfl | rfl | rfl | rfl | rfl | rfl | rfl | rfl | rfl | rfl | rfl | rfl | rfl | rfl | rfl <;> rfl
theorem Ex.cells_len (x : Ex) : x.cells.length = 3 := rfl
theorem RateV.cells_len (x : RateV) : x.cells.length = 16 := rfl
theorem flat_len {α : Type} {f : α → List Value} {c : Nat} (h : ∀ x, (f x).length = c) : ∀ l : List α, (l.flatMap f).length = l.length * c
  | [] => by simp
  | x :: r => by rw [List.flatMap_cons, List.length_append, flat_len h r, h, List.length_cons, Nat.succ_mul, Nat.add_comm]

def OwnE (w : World) (base : Nat) (v : Value) (l : List Ex) : Prop := w.ownsRow base 24 3 v l.length (l.flatMap Ex.cells)
theorem OwnE.nil (w : World) (base : Nat) : OwnE w base (.slice none 0 0) [] := World.ownsRow_nil _ _ _ _
theorem OwnE.step {w w1 : World} {base : Nat} {v : Value} {l : List Ex} (h : OwnE w base v l) (hb : Below w.heap.size w w1) : OwnE w1 base v l := by
  obtain ⟨h1, h2⟩ := h
  refine ⟨h1, ?_⟩
  rcases h2 with h2 | ⟨g, cap, cur, e1, e2, e3, e4⟩
  · exact Or.inl h2
  · exact Or.inr ⟨g, cap, cur, e1, e2, (hb.block g (Array.getElem?_eq_some_iff.1 e3).1).trans e3, e4⟩
theorem OwnE.alloc {w : World} {base : Nat} {v : Value} {l : List Ex} (h : OwnE w base v l) (o : Obj) : OwnE (w.alloc o) base v l := World.ownsRow.alloc h o
/-- Another block is changed. -/
theorem OwnE.ch {o : Nat → Prop} {A B : World} {base : Nat} {v : Value} {l : List Ex} (h : OwnE A base v l) (k : Ch o A B) (hn : ∀ g, v.ownBlock = some g → ¬ o g) : OwnE B base v l := by
  refine ⟨h.1, ?_⟩
  rcases h.2 with h2 | ⟨g, cap, cur, rfl, e2, e3, e4⟩
  · exact Or.inl h2
  · exact Or.inr ⟨g, cap, cur, rfl, e2, (k.2.2.2.2 g (Array.getElem?_eq_some_iff.1 e3).1 (hn g rfl)).trans e3, e4⟩
theorem OwnE.lt {w : World} {base : Nat} {v : Value} {l : List Ex} (h : OwnE w base v l) {g : Nat} (hg : v.ownBlock = some g) : base ≤ g ∧ g < w.heap.size := World.ownsRow.lt h g hg
theorem OwnE.shape {w : World} {base : Nat} {v : Value} {l : List Ex} (h : OwnE w base v l) (n : Nat) (hn : l.length = n) : ∃ ad cap, v = .slice ad n cap ∧ (∀ b o s, ad = some ⟨b, o, s⟩ → v.ownBlock = some b) ∧ n ≤ cap ∧ cap ≤ maxLen := by
  subst hn
  obtain ⟨h1, h2⟩ := h
  rcases h2 with ⟨rfl, h2⟩ | ⟨g, cap, cur, rfl, e2, e3, e4, e5, _⟩
  · exact ⟨none, 0, by rw [h2], fun b o s e => (by cases e), by omega, by unfold maxLen; omega⟩
  · exact ⟨_, cap, rfl, fun b o s e => by cases e; rfl, e4, e5⟩
theorem OwnE.cells {w : World} {base : Nat} {ad : Option Addr} {n cap : Nat} {l : List Ex} (h : OwnE w base (.slice ad n cap) l) {i : Nat} {x : Ex} (hx : l[i]? = some x) : ∃ g, ad = some ⟨g, 0, none⟩ ∧ base ≤ g ∧ ∀ j u, x.cells[j]? = some u → w.cell? ⟨g, 0 + i * 3 + j, none⟩ = some u := by
  obtain ⟨h1, h2⟩ := h
  rcases h2 with ⟨h0, h2⟩ | ⟨g, cap', cur, e1, e2, e3, e4, e5, e6, e7⟩
  · have : l = [] := List.eq_nil_of_length_eq_zero h2
    subst this; simp at hx
  · simp only [Value.slice.injEq] at e1
    obtain ⟨rfl, _, _⟩ := e1
    refine ⟨g, rfl, e2, fun j u hj => ?_⟩
    have hjc : j < 3 := (List.getElem?_eq_some_iff.1 hj).1
    have hf : (l.flatMap Ex.cells)[i * 3 + j]? = some u := by
      rw [flatE_at l i x j hx hjc]; exact hj
    rw [← e7] at hf
    have hj2 : cur.toList[i * 3 + j]? = some u := by
      rw [List.getElem?_take] at hf
      split at hf
      · exact hf
      · cases hf
    simp only [World.cell?, e3, Nat.zero_add]
    simpa using hj2
theorem wpList_append_E {w : World} {ops : Array Oper} {rest : List Oper} {o : Oper} {a : Act} {Q : Exit → Act → World → Prop} (hgd : o.guard = none) (s x : Operand) (t : TypeId)
    (ho : o.op = .call { callee := .builtin .append, args := #[s, x], argTypes := #[t, t] }) (ht : Try.prog.underlying t = some (.slice 24))
    (base : Nat) (v : Value) (l : List Ex) (hs : a.eval s = v) (hown : OwnE w base v l) (g c : Nat) (y : Ex) (hx : a.eval x = .slice (some ⟨g, 0, none⟩) 1 c)
    (hr : Row w g y.cells)
    (hn : l.length ≤ 1000000000) (hbase : base ≤ w.heap.size)
    (h : ∀ v' w', OwnE w' base v' (l ++ [y]) → w.grownBy w' v.ownBlock → (v'.ownBlock = v.ownBlock ∨ v'.ownBlock = some w.heap.size) → (∀ w0, Below base w0 w → Below base w0 w') → wpList Try.prog ops Q rest (a.put o.dst v') w') : wpList Try.prog ops Q (o :: rest) a w := by
  obtain ⟨i0, hi, hz0, hz1, hz2⟩ := info_parts info_E
  refine wpList_append_own_at w hgd s x t ho base 24 i0 (.agg #[.int .i64 0, .int .i64 0, .slice none 0 0]) 3 40 ht hi hz0 hz1 hz2 rfl (by decide) v l.length _ hs hown ⟨g, 0, none⟩ 1 c y.cells hx rfl ?_ (fun u hu => Ex.cells_one hu) ?_ ?_ hbase ?_
  · intro j u hj
    rw [addr_add, Nat.zero_add]
    exact hr.cell j hj
  · unfold maxLen; omega
  · omega
  · intro v' w' h1 h2 _ h4
    refine h v' w' ?_ h2 h4 (fun w0 hb => ?_)
    · unfold OwnE
      rw [List.flatMap_append, List.length_append]
      simpa using h1
    · exact hb.grown h2 hbase (fun k hk => (World.ownsRow.lt hown k hk).1)
def OwnR (w : World) (base : Nat) (v : Value) (l : List RateV) : Prop := w.ownsRow base 30 16 v l.length (l.flatMap RateV.cells)
theorem OwnR.nil (w : World) (base : Nat) : OwnR w base (.slice none 0 0) [] := World.ownsRow_nil _ _ _ _
theorem OwnR.step {w w1 : World} {base : Nat} {v : Value} {l : List RateV} (h : OwnR w base v l) (hb : Below w.heap.size w w1) : OwnR w1 base v l := by
  obtain ⟨h1, h2⟩ := h
  refine ⟨h1, ?_⟩
  rcases h2 with h2 | ⟨g, cap, cur, e1, e2, e3, e4⟩
  · exact Or.inl h2
  · exact Or.inr ⟨g, cap, cur, e1, e2, (hb.block g (Array.getElem?_eq_some_iff.1 e3).1).trans e3, e4⟩
theorem OwnR.alloc {w : World} {base : Nat} {v : Value} {l : List RateV} (h : OwnR w base v l) (o : Obj) : OwnR (w.alloc o) base v l := World.ownsRow.alloc h o
/-- Another block is changed. -/
theorem OwnR.ch {o : Nat → Prop} {A B : World} {base : Nat} {v : Value} {l : List RateV} (h : OwnR A base v l) (k : Ch o A B) (hn : ∀ g, v.ownBlock = some g → ¬ o g) : OwnR B base v l := by
  refine ⟨h.1, ?_⟩
  rcases h.2 with h2 | ⟨g, cap, cur, rfl, e2, e3, e4⟩
  · exact Or.inl h2
  · exact Or.inr ⟨g, cap, cur, rfl, e2, (k.2.2.2.2 g (Array.getElem?_eq_some_iff.1 e3).1 (hn g rfl)).trans e3, e4⟩
theorem OwnR.lt {w : World} {base : Nat} {v : Value} {l : List RateV} (h : OwnR w base v l) {g : Nat} (hg : v.ownBlock = some g) : base ≤ g ∧ g < w.heap.size := World.ownsRow.lt h g hg
theorem OwnR.shape {w : World} {base : Nat} {v : Value} {l : List RateV} (h : OwnR w base v l) (n : Nat) (hn : l.length = n) : ∃ ad cap, v = .slice ad n cap ∧ (∀ b o s, ad = some ⟨b, o, s⟩ → v.ownBlock = some b) ∧ n ≤ cap ∧ cap ≤ maxLen := by
  subst hn
  obtain ⟨h1, h2⟩ := h
  rcases h2 with ⟨rfl, h2⟩ | ⟨g, cap, cur, rfl, e2, e3, e4, e5, _⟩
  · exact ⟨none, 0, by rw [h2], fun b o s e => (by cases e), by omega, by unfold maxLen; omega⟩
  · exact ⟨_, cap, rfl, fun b o s e => by cases e; rfl, e4, e5⟩
theorem OwnR.cells {w : World} {base : Nat} {ad : Option Addr} {n cap : Nat} {l : List RateV} (h : OwnR w base (.slice ad n cap) l) {i : Nat} {x : RateV} (hx : l[i]? = some x) : ∃ g, ad = some ⟨g, 0, none⟩ ∧ base ≤ g ∧ ∀ j u, x.cells[j]? = some u → w.cell? ⟨g, 0 + i * 16 + j, none⟩ = some u := by
  obtain ⟨h1, h2⟩ := h
  rcases h2 with ⟨h0, h2⟩ | ⟨g, cap', cur, e1, e2, e3, e4, e5, e6, e7⟩
  · have : l = [] := List.eq_nil_of_length_eq_zero h2
    subst this; simp at hx
  · simp only [Value.slice.injEq] at e1
    obtain ⟨rfl, _, _⟩ := e1
    refine ⟨g, rfl, e2, fun j u hj => ?_⟩
    have hjc : j < 16 := (List.getElem?_eq_some_iff.1 hj).1
    have hf : (l.flatMap RateV.cells)[i * 16 + j]? = some u := by
      rw [flatR_at l i x j hx hjc]; exact hj
    rw [← e7] at hf
    have hj2 : cur.toList[i * 16 + j]? = some u := by
      rw [List.getElem?_take] at hf
      split at hf
      · exact hf
      · cases hf
    simp only [World.cell?, e3, Nat.zero_add]
    simpa using hj2
theorem wpList_append_R {w : World} {ops : Array Oper} {rest : List Oper} {o : Oper} {a : Act} {Q : Exit → Act → World → Prop} (hgd : o.guard = none) (s x : Operand) (t : TypeId)
    (ho : o.op = .call { callee := .builtin .append, args := #[s, x], argTypes := #[t, t] }) (ht : Try.prog.underlying t = some (.slice 30))
    (base : Nat) (v : Value) (l : List RateV) (hs : a.eval s = v) (hown : OwnR w base v l) (g c : Nat) (y : RateV) (hx : a.eval x = .slice (some ⟨g, 0, none⟩) 1 c)
    (hr : Row w g y.cells)
    (hn : l.length ≤ 1000000000) (hbase : base ≤ w.heap.size)
    (h : ∀ v' w', OwnR w' base v' (l ++ [y]) → w.grownBy w' v.ownBlock → (v'.ownBlock = v.ownBlock ∨ v'.ownBlock = some w.heap.size) → (∀ w0, Below base w0 w → Below base w0 w') → wpList Try.prog ops Q rest (a.put o.dst v') w') : wpList Try.prog ops Q (o :: rest) a w := by
  obtain ⟨i0, hi, hz0, hz1, hz2⟩ := info_parts info_R
  refine wpList_append_own_at w hgd s x t ho base 30 i0 (.agg #[.int .i64 0, .int .i64 0, .int .i64 0, .int .i64 0, .int .i64 0, .int .i64 0, .int .i64 0, .int .i64 0, .int .i64 0, .int .i64 0, .int .i64 0, .int .i64 0, .slice none 0 0, .int .i64 0, .int .i64 0, .slice none 0 0]) 16 160 ht hi hz0 hz1 hz2 rfl (by decide) v l.length _ hs hown ⟨g, 0, none⟩ 1 c y.cells hx rfl ?_ (fun u hu => RateV.cells_one hu) ?_ ?_ hbase ?_
  · intro j u hj
    rw [addr_add, Nat.zero_add]
    exact hr.cell j hj
  · unfold maxLen; omega
  · omega
  · intro v' w' h1 h2 _ h4
    refine h v' w' ?_ h2 h4 (fun w0 hb => ?_)
    · unfold OwnR
      rw [List.flatMap_append, List.length_append]
      simpa using h1
    · exact hb.grown h2 hbase (fun k hk => (World.ownsRow.lt hown k hk).1)
theorem OwnR.sl {w : World} {base : Nat} {ad : Option Addr} {n cap : Nat} {l : List RateV} (h : OwnR w base (.slice ad n cap) l) (hn : l.length = n) (hin : ∀ x ∈ l, x.In w) : SlR w ad n l := by
  refine ⟨hn, fun i x hx => ⟨hin x (List.mem_of_getElem? hx), ?_⟩⟩
  obtain ⟨g, e, _, hc⟩ := h.cells hx
  exact ⟨g, 0, e, hc⟩
theorem OwnE.sl {w : World} {base : Nat} {ad : Option Addr} {n cap : Nat} {l : List Ex} (h : OwnE w base (.slice ad n cap) l) (hin : ∀ x ∈ l, x.In w) : ExIn w ad 0 l := by
  refine ExIn.of fun i x hx => ⟨?_, hin x (List.mem_of_getElem? hx)⟩
  obtain ⟨g, e, _, hc⟩ := h.cells hx
  refine ⟨g, 0, e, ?_, ?_, ?_⟩
  · have := hc 0 _ rfl; simpa using this
  · have := hc 1 _ rfl; simpa using this
  · have := hc 2 _ rfl; simpa using this

/-! Several rates at once. -/
theorem sl_news {w : World} {b off m : Nat} {ys : List RateV} (h : SlR w (some ⟨b, off, none⟩) m ys) : ∀ j u, (ys.flatMap RateV.cells)[j]? = some u → w.cell? ((⟨b, off, none⟩ : Addr).add j) = some u := fun j u hj => by
  have hlt : j < ys.length * 16 := by
    have := (List.getElem?_eq_some_iff.1 hj).1
    rwa [flat_len RateV.cells_len] at this
  have hi : j / 16 < ys.length := by omega
  have hx : ys[j / 16]? = some (ys[j / 16]'hi) := List.getElem?_eq_getElem hi
  have hf := flatR_at ys (j / 16) _ (j % 16) hx (by omega)
  rw [show j / 16 * 16 + j % 16 = j by omega, hj] at hf
  obtain ⟨_, b', off', e, hc⟩ := h.2 (j / 16) _ hx
  cases e
  have := hc (j % 16) u hf.symm
  rw [addr_add]
  rwa [show off + j / 16 * 16 + j % 16 = off + j by omega] at this
theorem slr_take {w : World} {ad : Option Addr} {n k : Nat} {l : List RateV} (h : SlR w ad n l) (hk : k ≤ n) : SlR w ad k (l.take k) := by
  refine ⟨by rw [List.length_take, h.1]; omega, fun i x hx => ?_⟩
  have hik : i < k := by have := (List.getElem?_eq_some_iff.1 hx).1; simp at this; omega
  rw [List.getElem?_take_of_lt hik] at hx
  exact h.2 i x hx
theorem slr_drop {w : World} {b off n k : Nat} {l : List RateV} (h : SlR w (some ⟨b, off, none⟩) n l) (hk : k ≤ n) : SlR w (some ⟨b, off + k * 16, none⟩) (n - k) (l.drop k) := by
  refine ⟨by rw [List.length_drop, h.1], fun i x hx => ?_⟩
  rw [List.getElem?_drop] at hx
  obtain ⟨hin, b', off', e, hc⟩ := h.2 (k + i) x hx
  cases e
  refine ⟨hin, b, off + k * 16, rfl, fun j v hj => ?_⟩
  rw [show off + k * 16 + i * 16 + j = off + (k + i) * 16 + j by omega]
  exact hc j v hj
theorem wpList_append_Rs {w : World} {ops : Array Oper} {rest : List Oper} {o : Oper} {a : Act} {Q : Exit → Act → World → Prop} (hgd : o.guard = none) (s x : Operand) (t : TypeId)
    (ho : o.op = .call { callee := .builtin .append, args := #[s, x], argTypes := #[t, t] }) (ht : Try.prog.underlying t = some (.slice 30))
    (base : Nat) (v : Value) (l : List RateV) (hs : a.eval s = v) (hown : OwnR w base v l) (b off m c : Nat) (ys : List RateV) (hx : a.eval x = .slice (some ⟨b, off, none⟩) m c)
    (hr : SlR w (some ⟨b, off, none⟩) m ys) (hn : l.length + m ≤ 100000000) (hbase : base ≤ w.heap.size)
    (h : ∀ v' w', OwnR w' base v' (l ++ ys) → w.grownBy w' v.ownBlock → (v'.ownBlock = v.ownBlock ∨ v'.ownBlock = some w.heap.size) → (∀ w0, Below base w0 w → Below base w0 w') → wpList Try.prog ops Q rest (a.put o.dst v') w') : wpList Try.prog ops Q (o :: rest) a w := by
  obtain ⟨i0, hi, hz0, hz1, hz2⟩ := info_parts info_R
  refine wpList_append_own_at w hgd s x t ho base 30 i0 _ 16 160 ht hi hz0 hz1 hz2 rfl (by decide) v l.length _ hs hown ⟨b, off, none⟩ m c (ys.flatMap RateV.cells) hx (by rw [flat_len RateV.cells_len, hr.1]) (sl_news hr) (fun u hu => ?_) ?_ ?_ hbase ?_
  · obtain ⟨y, _, hy⟩ := List.mem_flatMap.1 hu
    exact RateV.cells_one hy
  · unfold maxLen; omega
  · omega
  · intro v' w' h1 h2 _ h4
    refine h v' w' ?_ h2 h4 (fun w0 hb => ?_)
    · unfold OwnR
      rw [List.flatMap_append, List.length_append, hr.1]
      exact h1
    · exact hb.grown h2 hbase (fun k hk => (World.ownsRow.lt hown k hk).1)
theorem step_app_Rs {ops : Array Oper} {o : Oper} {a : Act} {w : World} {K : Act → World → Prop} {Q : Exit → Act → World → Prop} {E : Prop} (hgd : o.guard = none) (s x : Operand) (t : TypeId)
    (ho : o.op = .call { callee := .builtin .append, args := #[s, x], argTypes := #[t, t] }) (ht : Try.prog.underlying t = some (.slice 30))
    (base : Nat) (v : Value) (l : List RateV) (hs : a.eval s = v) (hown : OwnR w base v l) (b off m c : Nat) (ys : List RateV) (hx : a.eval x = .slice (some ⟨b, off, none⟩) m c)
    (hr : SlR w (some ⟨b, off, none⟩) m ys) (hn : l.length + m ≤ 100000000) (hbase : base ≤ w.heap.size)
    (h : ∀ v' w', OwnR w' base v' (l ++ ys) → w.grownBy w' v.ownBlock → (v'.ownBlock = v.ownBlock ∨ v'.ownBlock = some w.heap.size) → (∀ w0, Below base w0 w → Below base w0 w') → K (a.put o.dst v') w') :
    if Region.wanted o (yielded ops a.tmps) = true then Oper.wp Try.prog o a w K Q else E := by
  have hw : Region.wanted o (yielded ops a.tmps) = true := by simp [Region.wanted, hgd]
  rw [if_pos hw]
  obtain ⟨i0, hi, hz0, hz1, hz2⟩ := info_parts info_R
  obtain ⟨v', w', hrun, h1, h2, _, h4⟩ := run_append_own_at (P := Try.prog) w base t o.type 30 i0 _ 16 160 ht hi hz0 hz1 hz2 rfl (by decide) v l.length _ hown ⟨b, off, none⟩ m c (ys.flatMap RateV.cells) (by rw [flat_len RateV.cells_len, hr.1]) (sl_news hr) (fun u hu => by
    obtain ⟨y, _, hy⟩ := List.mem_flatMap.1 hu
    exact RateV.cells_one hy) (by unfold maxLen; omega) (by omega) hbase
  unfold Oper.wp execOp
  simp only [ho, resolve, invoke, builtin, Sem.run_bind, Sem.run_pure, Result.andThen_ok, List.map_toArray, List.map_cons, List.map_nil, hs, hx, hrun]
  refine h v' w' ?_ h2 h4 (fun w0 hb => hb.grown h2 hbase (fun k hk => (World.ownsRow.lt hown k hk).1))
  unfold OwnR
  rw [List.flatMap_append, List.length_append, hr.1]
  exact h1
/-- The empty slice that a call makes. -/
theorem OwnR.made (w : World) (base : Nat) (h : base ≤ w.heap.size) : OwnR (w.alloc (.cells #[] 30)) base (.slice (some ⟨w.heap.size, 0, none⟩) 0 0) [] :=
  ⟨rfl, Or.inr ⟨w.heap.size, 0, #[], rfl, h, (by show (w.heap.push _)[w.heap.size]? = _; exact Array.getElem?_push_size), Nat.le_refl _, by unfold maxLen; omega, rfl, rfl⟩⟩

end Go.Proofs.Ytcmodmchnokmgaa
