/-
 A slice of ints that a call makes and appends to: the law of 'append' of one int, in short words.
-/
import Derived.Test.YtlmajlfhjbhdpaaGreatRows
import Derived.Test.YtlmajlfhjbhdpaaGreatOwnI
import Derived.Laws.AppendOwn
namespace Go.Proofs.YtlmajlfhjbhdpaaGreat
set_option linter.unusedSimpArgs false
set_option linter.unusedVariables false
open Go.RowKit
/-- v is a slice of the call's own (from block base on) that holds the ints zs. -/
def OwnV (w : World) (base : Nat) (v : Value) (zs : List Int) : Prop := w.ownsRow base 3 1 v zs.length (zs.map (Value.int .i64))
theorem OwnV.nil (w : World) (base : Nat) : OwnV w base (.slice none 0 0) [] := World.ownsRow_nil _ _ _ _
theorem OwnV.step {w w1 : World} {base : Nat} {v : Value} {zs : List Int} (h : OwnV w base v zs) (hb : Below w.heap.size w w1) : OwnV w1 base v zs := by
 obtain ⟨h1, h2⟩ := h
 refine ⟨h1, ?_⟩
 rcases h2 with h2 | ⟨g, cap, cur, e1, e2, e3, e4⟩
 ·
  exact Or.inl h2
 ·
  exact Or.inr ⟨g, cap, cur, e1, e2, (hb.block g (Array.getElem?_eq_some_iff.1 e3).1).trans e3, e4⟩
theorem OwnV.alloc {w : World} {base : Nat} {v : Value} {zs : List Int} (h : OwnV w base v zs) (o : Obj) : OwnV (w.alloc o) base v zs := World.ownsRow.alloc h o
theorem OwnV.of_nil {w : World} {base : Nat} {v : Value} (h : OwnV w base v []) : v = .slice none 0 0 ∨ ∃ g cap, v = .slice (some ⟨g, 0, none⟩) 0 cap := by
 obtain ⟨h1, h2⟩ := h
 rcases h2 with h2 | ⟨g, cap, cur, e1, _⟩
 ·
  exact Or.inl h2.1
 ·
  exact Or.inr ⟨g, cap, by simpa using e1⟩
theorem OwnV.own {w : World} {base : Nat} {v : Value} {zs : List Int} (h : OwnV w base v zs) (h0 : 0 < zs.length) :
  ∃ g cap, v = .slice (some ⟨g, 0, none⟩) zs.length cap ∧ base ≤ g ∧ OwnI w g zs ∧ zs.length ≤ cap ∧ cap ≤ maxLen := by
 obtain ⟨h1, h2⟩ := h
 rcases h2 with h2 | ⟨g, cap, cur, e1, e2, e3, e4, e5, e6, e7⟩
 ·
  omega
 ·
  refine ⟨g, cap, e1, e2, ⟨cur.toList.drop (zs.length * 1), 3, ?_⟩, e4, e5⟩
  rw [← e7, List.take_append_drop]
  simpa using e3
/-- v is a slice that holds the ints zs. -/
def SlV (w : World) (v : Value) (zs : List Int) : Prop := ∃ ad cap, v = .slice ad zs.length cap ∧ SlI w ad zs.length zs ∧ zs.length ≤ cap ∧ cap ≤ maxLen
theorem SlV.step {w w1 : World} {v : Value} {zs : List Int} (h : SlV w v zs) (hb : Below w.heap.size w w1) : SlV w1 v zs := by
 obtain ⟨ad, cap, e, h1, h2⟩ := h
 exact ⟨ad, cap, e, h1.below hb, h2⟩
theorem SlV.nil (w : World) : SlV w (.slice none 0 0) [] := ⟨none, 0, rfl, SlI.nil _ _, Nat.le_refl _, by unfold maxLen; omega⟩
theorem OwnV.sl {w : World} {base : Nat} {v : Value} {zs : List Int} (h : OwnV w base v zs) : SlV w v zs := by
 by_cases h0 : 0 < zs.length
 ·
  obtain ⟨g, cap, e, _, h1, h2, h3⟩ := h.own h0
  exact ⟨_, cap, e, h1.sl rfl, h2, h3⟩
 ·
  obtain ⟨h1, h2⟩ := h
  have hz : zs = [] := List.eq_nil_of_length_eq_zero (by omega)
  subst hz
  rcases h2 with h2 | ⟨g, cap, cur, e1, e2, e3, e4, e5, e6, e7⟩
  ·
   rw [h2.1]; exact SlV.nil w
  ·
   exact ⟨_, cap, e1, SlI.nil _ _, by simp, e5⟩
theorem info_int : (Tryz.prog.info? 3).map (fun i => (i.zero, i.size, i.bytes)) = some (some (.int .i64 0), 1, 8) := by kernel_rfl
/-- 'append' of one int that lies in a block of its own. -/
theorem wpList_append_int {w : World} {ops : Array Oper} {rest : List Oper} {o : Oper} {a : Act} {Q : Exit → Act → World → Prop} (hgd : o.guard = none) (s x : Operand) (t : TypeId)
  (ho : o.op = .call { callee := .builtin .append, args := #[s, x], argTypes := #[t, t] }) (ht : Tryz.prog.underlying t = some (.slice 3))
  (base : Nat) (v : Value) (zs : List Int) (hs : a.eval s = v) (hown : OwnV w base v zs) (g c : Nat) (z : Int) (hx : a.eval x = .slice (some ⟨g, 0, none⟩) 1 c) (hc : w.cell? ⟨g, 0, none⟩ = some (.int .i64 z))
  (hn : zs.length ≤ 1000000000000) (hbase : base ≤ w.heap.size)
  (h : ∀ v' w', OwnV w' base v' (zs ++ [z]) → (∀ w0, Below base w0 w → Below base w0 w') → w.heap.size ≤ w'.heap.size → wpList Tryz.prog ops Q rest (a.put o.dst v') w') : wpList Tryz.prog ops Q (o :: rest) a w := by
 obtain ⟨i0, hi, hz0, hz1, hz2⟩ := info_parts info_int
 refine wpList_append_own w hgd s x t ho base 3 i0 (.int .i64 0) 1 8 ht hi hz0 hz1 hz2 rfl (by decide) v zs.length _ hs hown ⟨g, 0, none⟩ 1 c [.int .i64 z] hx rfl ?_ ?_ ?_ ?_ hbase ?_
 ·
  intro j u hj
  cases j with
  | zero => simp at hj; subst hj; exact hc
  | succ j => simp at hj
 ·
  intro u hu; simp at hu; subst hu; rfl
 ·
  unfold maxLen; omega
 ·
  omega
 ·
  intro v' w' h1 h2 _
  refine h v' w' ?_ (fun w0 hb => ?_) h2.size
  ·
   unfold OwnV; simpa using h1
  ·
   exact hb.grown h2 hbase (fun k hk => (World.ownsRow.lt hown k hk).1)
end Go.Proofs.YtlmajlfhjbhdpaaGreat
