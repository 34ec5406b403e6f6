/-
  Laws of scene: append of a sale; two slices of sales that a call makes side by side; plain facts of SceneFurther.
-/
import Derived.Test.YtdijdfhlmnhcjaaScnN
import Derived.Maps.AppendAt
namespace Go.Proofs.Ytdijdfhlmnhcjaa
set_option linter.unusedSimpArgs false
set_option linter.unusedVariables false
open Go.RowKit Go.MapKept

/-- 'append' of one sale that lies in a block of its own. -/
theorem wpList_append_sale {w : World} {ops : Array Oper} {rest : List Oper} {o : Oper} {a : Act} {Q : Exit → Act → World → Prop} (hgd : o.guard = none) (s x : Operand) (t : TypeId)
    (ho : o.op = .call { callee := .builtin .append, args := #[s, x], argTypes := #[t, t] }) (ht : Try.prog.underlying t = some (.slice 44))
    (base : Nat) (v : Value) (l : List SaleV) (hs : a.eval s = v) (hown : OwnX w base v l) (g c : Nat) (y : SaleV) (hx : a.eval x = .slice (some ⟨g, 0, none⟩) 1 c)
    (hr : Row w g (saleCells y)) (hn : l.length ≤ 1000000000) (hbase : base ≤ w.heap.size)
    (h : ∀ v' w', OwnX w' base v' (l ++ [y]) → w.grownBy w' v.ownBlock → (v'.ownBlock = v.ownBlock ∨ v'.ownBlock = some w.heap.size) → (∀ w0, Below base w0 w → Below base w0 w') → wpList Try.prog ops Q rest (a.put o.dst v') w') : wpList Try.prog ops Q (o :: rest) a w := by
  obtain ⟨i0, hi, hz0, hz1, hz2⟩ := info_parts info_sale
  refine wpList_append_own_at w hgd s x t ho base 44 i0 (.agg #[.int .i64 0, .int .i64 0, .int .i64 0, .bool false, .int .i64 0, .int .i64 0, .int .i64 0, .int .i64 0]) 8 64 ht hi hz0 hz1 hz2 rfl (by decide) v l.length _ hs hown ⟨g, 0, none⟩ 1 c (salesCells [y]) hx rfl ?_ (fun u hu => salesCells_one hu) ?_ ?_ hbase ?_
  · intro j u hj
    have e : salesCells [y] = saleCells y := by simp [salesCells]
    rw [e] at hj
    have := hr.cell j hj
    rw [show (⟨g, 0, none⟩ : Addr).add j = ⟨g, j, none⟩ by simp [Addr.add]; try (intro h; exact h.symm)]
    exact this
  · unfold maxLen; omega
  · omega
  · intro v' w' h1 h2 _ h4
    refine h v' w' ?_ h2 h4 (fun w0 hb => ?_)
    · unfold OwnX; rw [salesCells_append, List.length_append]; exact h1
    · exact hb.grown h2 hbase (fun k hk => (World.ownsRow.lt hown k hk).1)

/-- Two slices of sales of the call's own, in blocks of their own. -/
def TwoX (w : World) (base : Nat) (v1 : Value) (L1 : List SaleV) (v2 : Value) (L2 : List SaleV) : Prop :=
  OwnX w base v1 L1 ∧ OwnX w base v2 L2 ∧ ∀ g, v1.ownBlock = some g → v2.ownBlock ≠ some g
theorem TwoX.nil (w : World) (base : Nat) : TwoX w base (.slice none 0 0) [] (.slice none 0 0) [] := ⟨OwnX.nil _ _, OwnX.nil _ _, fun g h => by cases h⟩
theorem TwoX.alloc {w : World} {base : Nat} {v1 v2 : Value} {L1 L2 : List SaleV} (h : TwoX w base v1 L1 v2 L2) (o : Obj) : TwoX (w.alloc o) base v1 L1 v2 L2 := ⟨h.1.alloc o, h.2.1.alloc o, h.2.2⟩
theorem TwoX.swap {w : World} {base : Nat} {v1 v2 : Value} {L1 L2 : List SaleV} (h : TwoX w base v1 L1 v2 L2) : TwoX w base v2 L2 v1 L1 := ⟨h.2.1, h.1, fun g h2 h1 => h.2.2 g h1 h2⟩
theorem TwoX.app {w w1 : World} {base : Nat} {v1 v2 u : Value} {L1 L2 U : List SaleV} (h : TwoX w base v1 L1 v2 L2) (hu : OwnX w1 base u U) (hg : w.grownBy w1 v1.ownBlock) (ho : u.ownBlock = v1.ownBlock ∨ u.ownBlock = some w.heap.size) : TwoX w1 base u U v2 L2 := by
  obtain ⟨h1, h2, h3⟩ := h
  refine ⟨hu, h2.blk (fun g hg2 => ?_), fun g hg1 hg2 => ?_⟩
  · refine hg.block g (h2.own hg2).2.1 (fun e => ?_)
    exact h3 g e.symm hg2
  · rcases ho with e | e
    · rw [e] at hg1; exact h3 g hg1 hg2
    · rw [e] at hg1
      cases hg1
      exact Nat.lt_irrefl _ (h2.own hg2).2.1

/-! The sales without one of them. -/
def lessK (S : List SaleV) (p k : Nat) : List SaleV := (S.take k).eraseIdx p
theorem lessK_succ {S : List SaleV} {p k : Nat} {x : SaleV} (h : S[k]? = some x) : lessK S p (k + 1) = if k = p then lessK S p k else lessK S p k ++ [x] := by
  obtain ⟨hk, e⟩ := List.getElem?_eq_some_iff.1 h
  unfold lessK
  rw [List.take_succ_eq_append_getElem hk, e]
  have hl : (S.take k).length = k := by rw [List.length_take]; omega
  split
  · rename_i hkp
    subst hkp
    rw [List.eraseIdx_append_of_length_le (by omega), hl, Nat.sub_self, List.eraseIdx_of_length_le (l := S.take k) (by omega)]
    simp
  · rename_i hkp
    by_cases hp : p < k
    · rw [List.eraseIdx_append_of_lt_length (by omega)]
    · rw [List.eraseIdx_append_of_length_le (by omega), hl, List.eraseIdx_of_length_le (l := S.take k) (by omega), List.eraseIdx_of_length_le (l := [x]) (by simp; omega)]
theorem lessK_le (S : List SaleV) (p k : Nat) : (lessK S p k).length ≤ k := by
  unfold lessK
  exact Nat.le_trans (List.length_eraseIdx_le _ _) (by rw [List.length_take]; omega)
theorem lessK_all {S : List SaleV} {p : Nat} : lessK S p S.length = S.eraseIdx p := by unfold lessK; rw [List.take_length]
theorem salesB_sub {S T : List SaleV} (h : T.Sublist S) (hS : salesB S = true) : salesB T = true := by
  obtain ⟨h1, h2, h3⟩ := salesB_in hS
  unfold salesB
  simp only [Bool.and_eq_true, decide_eq_true_eq, List.all_eq_true]
  exact ⟨fun x hx => h1 x (h.subset hx), h2.sublist (h.map _), Nat.le_trans h.length_le h3⟩
theorem salesB_rev {S : List SaleV} (hS : salesB S = true) : salesB S.reverse = true := by
  obtain ⟨h1, h2, h3⟩ := salesB_in hS
  unfold salesB
  simp only [Bool.and_eq_true, decide_eq_true_eq, List.all_eq_true]
  refine ⟨fun x hx => h1 x (List.mem_reverse.1 hx), ?_, by rw [List.length_reverse]; exact h3⟩
  rw [List.map_reverse]
  exact List.pairwise_reverse.2 (h2.imp fun h => Ne.symm h)
theorem kept_nil (S : List SaleV) : keptS S [] = S := by unfold keptS; simp
theorem cntB_none {l : List NightV} {S : List SaleV} (h1 : nightsB l = true) (h2 : salesB S = true) : cntB l S [] = true := by
  unfold cntB; rw [h1, h2]; rfl
theorem cntS_rev (S : List SaleV) (i : Int) : cntS S.reverse i = cntS S i := by
  unfold cntS; rw [List.filter_reverse, List.length_reverse]
theorem cntL_rev (l : List NightV) (S : List SaleV) : cntL l S.reverse [] = cntL l S [] := by
  unfold cntL
  refine tabI_ext (fun i _ => ?_)
  rw [kept_nil, kept_nil, cntS_rev]
theorem cntS_less {S : List SaleV} {p : Nat} {x : SaleV} (h : S[p]? = some x) (i : Int) : cntS S i = cntS (S.eraseIdx p) i + (if onS i x then 1 else 0) := by
  obtain ⟨hp, e⟩ := List.getElem?_eq_some_iff.1 h
  have hS : S = S.take p ++ x :: S.drop (p + 1) := by
    rw [← e, ← List.drop_eq_getElem_cons hp, List.take_append_drop]
  rw [List.eraseIdx_eq_take_drop_succ]
  conv => lhs; rw [hS]
  unfold cntS
  rw [List.filter_append, List.filter_append, List.filter_cons, List.length_append, List.length_append]
  split <;> simp <;> omega
/-- What SceneFurther says of one night. -/
theorem further_law {l : List NightV} {S : List SaleV} {p : Nat} {x : SaleV} (hx : S[p]? = some x) (h : nightsB l = true) (hS : S.length ≤ 200) {i : Nat} (hi : i < l.length) :
    (cntL l S []).getD i 0 = (cntL l (S.eraseIdx p) []).getD i 0 + (if (decide (x.fr ≤ (i : Int)) && decide ((i : Int) < x.un)) = true ∧ roomAt l i ≤ (cntS (S.eraseIdx p) i : Int) then 1 else 0) ∧ 0 ≤ (cntL l (S.eraseIdx p) []).getD i 0 ∧ (cntL l (S.eraseIdx p) []).getD i 0 ≤ 1000 := by
  have h1 := cntS_less hx (i : Int)
  have h2 := roomAt_nonneg h i
  have h3 : cntS (S.eraseIdx p) (i : Int) ≤ 200 := Nat.le_trans (cntS_le _ _) (Nat.le_trans (List.length_eraseIdx_le _ _) hS)
  rw [cntL_get hi, cntL_get hi, kept_nil, kept_nil, h1]
  have e : onS (i : Int) x = (decide (x.fr ≤ (i : Int)) && decide ((i : Int) < x.un)) := rfl
  rw [e]
  by_cases ho : (decide (x.fr ≤ (i : Int)) && decide ((i : Int) < x.un)) = true
  · rw [if_pos ho]
    by_cases hr : roomAt l i ≤ (cntS (S.eraseIdx p) i : Int)
    · rw [if_pos ⟨ho, hr⟩]
      refine ⟨?_, ?_, ?_⟩ <;> (unfold mxI; (repeat' split) <;> omega)
    · rw [if_neg (fun q => hr q.2)]
      refine ⟨?_, ?_, ?_⟩ <;> (unfold mxI; (repeat' split) <;> omega)
  · rw [if_neg ho, if_neg (fun q => ho q.1)]
    refine ⟨?_, ?_, ?_⟩ <;> (unfold mxI; (repeat' split) <;> omega)
theorem rev_takeS {S : List SaleV} {k j : Nat} {x : SaleV} (h : k + j + 1 = S.length) (hx : S[j]? = some x) : S.reverse.take (k + 1) = S.reverse.take k ++ [x] := by
  obtain ⟨hj, e⟩ := List.getElem?_eq_some_iff.1 hx
  have hk : k < S.reverse.length := by rw [List.length_reverse]; omega
  rw [List.take_succ_eq_append_getElem hk]
  congr 2
  rw [List.getElem_reverse]
  rw [← e]
  congr 1
  omega
theorem take_snocS {L : List SaleV} {k : Nat} {x : SaleV} (h : L[k]? = some x) : L.take (k + 1) = L.take k ++ [x] := by
  obtain ⟨hk, e⟩ := List.getElem?_eq_some_iff.1 h
  rw [List.take_succ_eq_append_getElem hk, e]

end Go.Proofs.Ytdijdfhlmnhcjaa
