/-
  Plain facts of TypesTogether: rates left out, put into the opposite order, twice; what its loop holds.
-/
import Derived.Test.YtcmodmchnokmgaaOwnE
import Derived.Test.YtcmodmchnokmgaaTyG
import Derived.BigFrame
namespace Go.Proofs.Ytcmodmchnokmgaa
set_option linter.unusedSimpArgs false
set_option linter.unusedVariables false
open Go.RowKit

/-- Of the first i rates, those but the k-th. -/
def lessL (l : List RateV) (k i : Nat) : List RateV := (l.take i).eraseIdx k
theorem lessL_same {l : List RateV} {k : Nat} : lessL l k (k + 1) = lessL l k k := by
  unfold lessL
  rw [List.eraseIdx_of_length_le (l := l.take k) (by simp; omega)]
  by_cases h : k < l.length
  · rw [List.take_succ_eq_append_getElem h, List.eraseIdx_append_of_length_le (by simp; omega)]
    simp
    rw [Nat.min_eq_left (by omega)]
    simp
  · rw [List.take_of_length_le (by omega), List.take_of_length_le (by omega), List.eraseIdx_of_length_le (by omega)]
theorem lessL_snoc {l : List RateV} {k i : Nat} {x : RateV} (h : l[i]? = some x) (hik : i ≠ k) : lessL l k (i + 1) = lessL l k i ++ [x] := by
  unfold lessL
  obtain ⟨hi, e⟩ := List.getElem?_eq_some_iff.1 h
  rw [List.take_succ_eq_append_getElem hi, e]
  by_cases hk : k < i
  · rw [List.eraseIdx_append_of_lt_length (by simp; omega)]
  · rw [List.eraseIdx_of_length_le (l := l.take i) (by simp; omega), List.eraseIdx_of_length_le (by simp; omega)]
theorem lessL_length (l : List RateV) (k i : Nat) : (lessL l k i).length ≤ i := by
  unfold lessL
  have := List.length_eraseIdx_le (l.take i) k
  simp at this ⊢
  omega
theorem lessL_mem {l : List RateV} {k i : Nat} {x : RateV} (h : x ∈ lessL l k i) : x ∈ l := List.mem_of_mem_take (List.mem_of_mem_eraseIdx h)
theorem backL_snoc {l : List RateV} {i : Nat} {x : RateV} (hi : i < l.length) (h : l[l.length - 1 - i]? = some x) : l.reverse.take (i + 1) = l.reverse.take i ++ [x] := by
  have hl : i < l.reverse.length := by simpa using hi
  rw [List.take_succ_eq_append_getElem hl]
  congr 2
  rw [List.getElem_reverse]
  obtain ⟨_, e⟩ := List.getElem?_eq_some_iff.1 h
  exact e
def allV (l : List RateV) (i : Nat) : Bool := decide (l.length ≤ 100) && ((l.take i).all rateB && decide (((l.take i).map RateV.id).Nodup))
theorem allV_zero (l : List RateV) : allV l 0 = decide (l.length ≤ 100) := by unfold allV; simp
theorem allV_next {l : List RateV} {k : Nat} {r : RateV} (h : l[k]? = some r) : allV l (k + 1) = (allV l k && (rateB r && !decide (r.id ∈ (l.take k).map RateV.id))) := by
  unfold allV; rw [validR_take h]; simp only [Bool.and_assoc]
theorem allV_end (l : List RateV) : allV l l.length = validR l := by unfold allV validR; rw [List.take_length]
theorem valid_back (l : List RateV) : validR l.reverse = validR l := by
  unfold validR
  rw [List.length_reverse, List.all_reverse, List.map_reverse]
  congr 2
  rw [Bool.eq_iff_iff, decide_eq_true_eq, decide_eq_true_eq]
  exact (List.reverse_perm _).nodup_iff
theorem valid_less {l : List RateV} {k : Nat} (h : validR l = true) : validR (l.eraseIdx k) = true := by
  unfold validR at h ⊢
  simp only [Bool.and_eq_true, decide_eq_true_eq, List.all_eq_true] at h ⊢
  obtain ⟨h1, h2, h3⟩ := h
  refine ⟨?_, fun x hx => h2 x (List.mem_of_mem_eraseIdx hx), ?_⟩
  · have := List.length_eraseIdx_le l k; omega
  · exact h3.sublist ((List.eraseIdx_sublist l k).map _)
theorem valid_twice {l : List RateV} {x : RateV} (h : x ∈ l) : validR (l ++ [x]) = false := by
  rw [← Bool.not_eq_true]
  intro hv
  unfold validR at hv
  simp only [Bool.and_eq_true, decide_eq_true_eq, List.map_append, List.map_cons, List.map_nil] at hv
  have := (List.nodup_append.1 hv.2.2).2.2 x.id (List.mem_map.2 ⟨x, h, rfl⟩) x.id (by simp)
  exact this rfl

/-- Grown elsewhere. -/
theorem OwnR.grown {w w' : World} {base : Nat} {v : Value} {l : List RateV} (h : OwnR w base v l) {s : Option Nat} (hg : w.grownBy w' s) (hn : ∀ g, v.ownBlock = some g → s ≠ some g) : OwnR w' base v l := by
  refine ⟨h.1, ?_⟩
  rcases h.2 with h2 | ⟨g, cap, cur, rfl, e2, e3, e4⟩
  · exact Or.inl h2
  · exact Or.inr ⟨g, cap, cur, rfl, e2, (hg.block g (Array.getElem?_eq_some_iff.1 e3).1 (fun e => hn g rfl e.symm)).trans e3, e4⟩
/-- What the loop holds: two slices of the call's own, apart, and the map of the IDs. -/
def TogI (w W : World) (M : Nat) (l : List RateV) (k i j q : Nat) (v1 v2 : Value) : Prop :=
  OwnR W (M + 1) v1 (lessL l k i) ∧ OwnR W (M + 1) v2 (l.reverse.take j) ∧ (∀ g, v1.ownBlock = some g → v2.ownBlock ≠ some g) ∧ IMap W M (seenM (l.take q)) ∧ Below w.heap.size w W ∧ w.heap.size ≤ M ∧ M + 1 ≤ W.heap.size
theorem TogI.step {w W W1 : World} {M : Nat} {l : List RateV} {k i j q : Nat} {v1 v2 : Value} (h : TogI w W M l k i j q v1 v2) (hb : Below W.heap.size W W1) : TogI w W1 M l k i j q v1 v2 := by
  obtain ⟨h1, h2, h3, h4, h5, h6, h7⟩ := h
  exact ⟨h1.step hb, h2.step hb, h3, h4.below hb, h5.trans (hb.mono h5.size), h6, Nat.le_trans h7 hb.size⟩
theorem TogI.low {w W : World} {M : Nat} {l : List RateV} {k i j q : Nat} {v1 v2 : Value} (h : TogI w W M l k i j q v1 v2) : Below w.heap.size w W := h.2.2.2.2.1
theorem TogI.start {w W : World} {l : List RateV} {k M : Nat} (hb : Below w.heap.size w W) (hm : IMap W M []) (hM : w.heap.size ≤ M) (hl : M + 1 ≤ W.heap.size) : TogI w W M l k 0 0 0 (.slice none 0 0) (.slice none 0 0) :=
  ⟨by unfold lessL; simp only [List.take_zero, List.eraseIdx_nil]; exact OwnR.nil _ _, by rw [List.take_zero]; exact OwnR.nil _ _, fun g e => by simp [Value.ownBlock] at e, by rw [List.take_zero]; exact hm, hb, hM, hl⟩
theorem TogI.less {w W W1 : World} {M : Nat} {l : List RateV} {k i j q : Nat} {v1 v2 v' : Value} {x : RateV} (h : TogI w W M l k i j q v1 v2) (hx : l[i]? = some x) (hik : i ≠ k) (ho : OwnR W1 (M + 1) v' (lessL l k i ++ [x])) (hg : W.grownBy W1 v1.ownBlock) (hv : v'.ownBlock = v1.ownBlock ∨ v'.ownBlock = some W.heap.size) : TogI w W1 M l k (i + 1) j q v' v2 := by
  obtain ⟨h1, h2, h3, h4, h5, h6, h7⟩ := h
  refine ⟨by rw [lessL_snoc hx hik]; exact ho, h2.grown hg (fun g e e2 => h3 g e2 e), fun g e e2 => ?_, h4.grown hg (fun e => by have := (h1.lt e).1; omega), h5.grown hg h5.size (fun g e => by have := (h1.lt e).1; omega), h6, Nat.le_trans h7 hg.size⟩
  rcases hv with e3 | e3
  · exact h3 g (e3 ▸ e) e2
  · rw [e3] at e
    cases e
    have := (h2.lt e2).2
    omega
theorem TogI.same {w W : World} {M : Nat} {l : List RateV} {k j q : Nat} {v1 v2 : Value} (h : TogI w W M l k k j q v1 v2) : TogI w W M l k (k + 1) j q v1 v2 := by
  obtain ⟨h1, h2⟩ := h
  exact ⟨by rw [lessL_same]; exact h1, h2⟩
theorem TogI.back {w W W1 : World} {M : Nat} {l : List RateV} {k i j q : Nat} {v1 v2 v' : Value} {x : RateV} (h : TogI w W M l k i j q v1 v2) (hj : j < l.length) (hx : l[l.length - 1 - j]? = some x) (ho : OwnR W1 (M + 1) v' (l.reverse.take j ++ [x])) (hg : W.grownBy W1 v2.ownBlock) (hv : v'.ownBlock = v2.ownBlock ∨ v'.ownBlock = some W.heap.size) : TogI w W1 M l k i (j + 1) q v1 v' := by
  obtain ⟨h1, h2, h3, h4, h5, h6, h7⟩ := h
  refine ⟨h1.grown hg (fun g e e2 => h3 g e e2), by rw [backL_snoc hj hx]; exact ho, fun g e e2 => ?_, h4.grown hg (fun e => by have := (h2.lt e).1; omega), h5.grown hg h5.size (fun g e => by have := (h2.lt e).1; omega), h6, Nat.le_trans h7 hg.size⟩
  rcases hv with e3 | e3
  · exact h3 g e (e3 ▸ e2)
  · rw [e3] at e2
    cases e2
    have := (h1.lt e).2
    omega
theorem TogI.seen {w W W1 : World} {M : Nat} {l : List RateV} {k i j q : Nat} {v1 v2 : Value} {x : RateV} (h : TogI w W M l k i j q v1 v2) (hx : l[q]? = some x) (hm : IMap W1 M (upd (seenM (l.take q)) x.id (.bool true))) (hg : W.grownBy W1 (some M)) : TogI w W1 M l k i j (q + 1) v1 v2 := by
  obtain ⟨h1, h2, h3, h4, h5, h6, h7⟩ := h
  refine ⟨h1.grown hg (fun g e e2 => by cases e2; have := (h1.lt e).1; omega), h2.grown hg (fun g e e2 => by cases e2; have := (h2.lt e).1; omega), h3, ?_, h5.grown hg h5.size (fun g e => by cases e; exact h6), h6, Nat.le_trans h7 hg.size⟩
  obtain ⟨hq, e⟩ := List.getElem?_eq_some_iff.1 hx
  rw [List.take_succ_eq_append_getElem hq, e, seenM_snoc]
  exact hm
theorem TogI.look {w W : World} {M : Nat} {l : List RateV} {k i j q : Nat} {v1 v2 : Value} (h : TogI w W M l k i j q v1 v2) (id : Int) : Sem.run Try.prog (Instr.lookup 46 (.map (some M)) (.int .i64 id) false) W = .ok (.bool (decide (id ∈ (l.take q).map RateV.id))) W := by
  rw [run_lookup_imap Try.underlying46 Try.underlying3 h.2.2.2.1 _ (zero_bool _) id false, seen_look]
  by_cases hm : id ∈ (l.take q).map RateV.id
  · rw [if_pos hm, decide_eq_true hm]; rfl
  · rw [if_neg hm, decide_eq_false hm]; rfl

/-- 'append' of one rate under a guard that holds. -/
theorem wpList_append_Rw {w : World} {ops : Array Oper} {rest : List Oper} {o : Oper} {a : Act} {Q : Exit → Act → World → Prop} (hw : Region.wanted o (yielded ops a.tmps) = true) (s x : Operand) (t : TypeId)
    (ho : o.op = .call { callee := .builtin .append, args := #[s, x], argTypes := #[t, t] }) (ht : Try.prog.underlying t = some (.slice 30))
    (base : Nat) (v : Value) (l : List RateV) (hs : a.eval s = v) (hown : OwnR w base v l) (g c : Nat) (y : RateV) (hx : a.eval x = .slice (some ⟨g, 0, none⟩) 1 c)
    (hr : Row w g y.cells) (hn : l.length ≤ 1000000) (hbase : base ≤ w.heap.size)
    (h : ∀ v' w', OwnR w' base v' (l ++ [y]) → (∀ w0, Below base w0 w → Below base w0 w') → wpList Try.prog ops Q rest (a.put o.dst v') w') : wpList Try.prog ops Q (o :: rest) a w := by
  obtain ⟨i0, hi, hz0, hz1, hz2⟩ := info_parts info_R
  obtain ⟨v', w', hrun, r1, r2, _⟩ := run_append_own_at (P := Try.prog) w base t o.type 30 i0 (.agg #[.int .i64 0, .int .i64 0, .int .i64 0, .int .i64 0, .int .i64 0, .int .i64 0, .int .i64 0, .int .i64 0, .int .i64 0, .int .i64 0, .int .i64 0, .int .i64 0, .slice none 0 0, .int .i64 0, .int .i64 0, .slice none 0 0]) 16 160 ht hi hz0 hz1 hz2 rfl (by decide) v l.length _ hown ⟨g, 0, none⟩ 1 c y.cells rfl
    (fun j u hj => by rw [addr_add, Nat.zero_add]; exact hr.cell j hj) (fun u hu => RateV.cells_one hu) (by unfold maxLen; omega) (by omega) hbase
  refine Go.BigFrame.wpList_want hw fun K hK => ?_
  unfold Oper.wp
  simp [execOp, ho, resolve, invoke, builtin, hs, hx, hrun, Result.andThen]
  refine hK _ _ (h v' w' ?_ (fun w0 hb => hb.grown r2 hbase (fun k hk => (World.ownsRow.lt hown k hk).1)))
  unfold OwnR
  rw [List.flatMap_append, List.length_append]
  simpa using r1

end Go.Proofs.Ytcmodmchnokmgaa
