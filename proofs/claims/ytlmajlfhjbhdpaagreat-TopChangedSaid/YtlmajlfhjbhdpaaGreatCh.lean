/-
 Worlds that differ in some blocks alone.
-/
import Derived.Test.YtlmajlfhjbhdpaaGreatHeldJ
import Derived.Deep.AppendLies
namespace Go.Proofs.YtlmajlfhjbhdpaaGreat
set_option linter.unusedSimpArgs false
set_option linter.unusedVariables false
open Go.RowKit
/-- Only blocks of o turn (and new blocks may be there). -/
def Ch (o : Nat → Prop) (A B : World) : Prop := B.os = A.os ∧ B.tape = A.tape ∧ B.output = A.output ∧ A.heap.size ≤ B.heap.size ∧ ∀ k, k < A.heap.size → ¬ o k → B.heap[k]? = A.heap[k]?
theorem Ch.refl (o : Nat → Prop) (A : World) : Ch o A A := ⟨rfl, rfl, rfl, Nat.le_refl _, fun _ _ _ => rfl⟩
theorem Ch.trans {o : Nat → Prop} {A B C : World} (h : Ch o A B) (k : Ch o B C) : Ch o A C :=
 ⟨k.1.trans h.1, k.2.1.trans h.2.1, k.2.2.1.trans h.2.2.1, Nat.le_trans h.2.2.2.1 k.2.2.2.1, fun i hi ho => (k.2.2.2.2 i (Nat.lt_of_lt_of_le hi h.2.2.2.1) ho).trans (h.2.2.2.2 i hi ho)⟩
theorem Ch.mono {o p : Nat → Prop} {A B : World} (h : Ch o A B) (hp : ∀ k, k < A.heap.size → o k → p k) : Ch p A B := ⟨h.1, h.2.1, h.2.2.1, h.2.2.2.1, fun k hk hn => h.2.2.2.2 k hk (fun ho => hn (hp k hk ho))⟩
theorem Ch.size {o : Nat → Prop} {A B : World} (h : Ch o A B) : A.heap.size ≤ B.heap.size := h.2.2.2.1
theorem Ch.of_grown {o : Nat → Prop} {A B : World} {row : Option Nat} (h : A.grownBy B row) (hr : ∀ k, row = some k → o k) : Ch o A B :=
 ⟨h.os, h.tape, h.output, h.size, fun k hk hn => h.block k hk (fun e => hn (hr k e.symm))⟩
theorem Ch.alloc {o : Nat → Prop} {A W : World} (h : Ch o A W) (x : Obj) : Ch o A (W.alloc x) := h.trans ⟨rfl, rfl, rfl, by simp, fun k hk _ => Below.heap_alloc _ _ _ hk⟩
theorem Ch.drew {o : Nat → Prop} {A W : World} (h : Ch o A W) : Ch o A W.drew := h.trans ⟨rfl, rfl, rfl, Nat.le_refl _, fun _ _ _ => rfl⟩
theorem Ch.setCell {o : Nat → Prop} {A W : World} (h : Ch o A W) {p : Addr} (hp : o p.block) (v : Value) : Ch o A (W.setCell p v) :=
 h.trans ⟨rfl, rfl, rfl, by simp [World.setCell], fun k hk hn => Below.heap_setCell _ _ _ _ (fun e => hn (by rw [e]; exact hp))⟩
theorem Ch.below {o : Nat → Prop} {A B w0 : World} {b : Nat} (h : Ch o A B) (hb : Below b w0 A) (ho : ∀ k, o k → b ≤ k) (hs : b ≤ A.heap.size) : Below b w0 B :=
 hb.trans ⟨h.1, h.2.1, h.2.2.1, h.2.2.2.1, fun k hk => h.2.2.2.2 k (Nat.lt_of_lt_of_le hk hs) (fun hh => by have := ho k hh; omega)⟩
theorem Row.ch {o : Nat → Prop} {A B : World} {b : Nat} {cs : List Value} (h : Row A b cs) (k : Ch o A B) (hn : ¬ o b) : Row B b cs := h.of_block (k.2.2.2.2 b h.lt hn)
theorem OwnV.ch {o : Nat → Prop} {A B : World} {base : Nat} {v : Value} {zs : List Int} (h : OwnV A base v zs) (k : Ch o A B) (hn : ∀ g, v.ownBlock = some g → ¬ o g) : OwnV B base v zs := by
 refine ⟨h.1, ?_⟩
 rcases h.2 with h2 | ⟨g, cap, cur, rfl, e2, e3, e4⟩
 ·
  exact Or.inl h2
 ·
  exact Or.inr ⟨g, cap, cur, rfl, e2, (k.2.2.2.2 g (Array.getElem?_eq_some_iff.1 e3).1 (hn g rfl)).trans e3, e4⟩
theorem OwnV.lt {w : World} {base : Nat} {v : Value} {zs : List Int} (h : OwnV w base v zs) {g : Nat} (hg : v.ownBlock = some g) : base ≤ g ∧ g < w.heap.size := World.ownsRow.lt h g hg
theorem Ch.others {o : Nat → Prop} {A B : World} (h : Ch o A B) (ho : ∀ k, o k → ∃ cs T fr, A.heap[k]? = some (.cells cs T fr)) : KeepsOthers A B :=
 ⟨h.2.2.2.1, fun k x hk hc => (h.2.2.2.2 k (Array.getElem?_eq_some_iff.1 hk).1 (fun hh => by
  obtain ⟨cs, T, fr, e⟩ := ho k hh
  rw [e] at hk
  cases hk
  simp [Obj.isCells] at hc)).trans hk⟩
theorem OwnV.isCells {w : World} {base : Nat} {v : Value} {zs : List Int} (h : OwnV w base v zs) {g : Nat} (hg : v.ownBlock = some g) : ∃ cs T fr, w.heap[g]? = some (.cells cs T fr) := by
 rcases h.2 with ⟨rfl, _⟩ | ⟨g', cap, cur, rfl, e2, e3, e4⟩
 ·
  simp [Value.ownBlock] at hg
 ·
  simp [Value.ownBlock] at hg
  subst hg
  exact ⟨_, _, _, e3⟩
/-- 'append' of one int to a slice of the call's own, as a step of a region that draws; and where the new slice lies. -/
theorem step_app_int {ops : Array Oper} {o : Oper} {a : Act} {w : World} {K : Act → World → Prop} {Q : Exit → Act → World → Prop} {E : Prop}
  (hg : o.guard = none) (s x : Operand) (t : TypeId) (hop : o.op = Op.call { callee := Callee.builtin Builtin.append, args := #[s, x], argTypes := #[t, t] }) (ht : Tryz.prog.underlying t = some (.slice 3))
  (base : Nat) (v : Value) (zs : List Int) (hs : a.eval s = v) (hown : OwnV w base v zs) (g c : Nat) (z : Int) (hx : a.eval x = .slice (some ⟨g, 0, none⟩) 1 c) (hc : w.cell? ⟨g, 0, none⟩ = some (.int .i64 z)) (hn : zs.length ≤ 1000000000000) (hbase : base ≤ w.heap.size)
  (hK : ∀ gg cap w', OwnV w' base (.slice (some ⟨gg, 0, none⟩) (zs.length + 1) cap) (zs ++ [z]) → w.grownBy w' v.ownBlock → (v.ownBlock = some gg ∨ gg = w.heap.size) → K (a.put o.dst (.slice (some ⟨gg, 0, none⟩) (zs.length + 1) cap)) w') :
  if Region.wanted o (yielded ops a.tmps) = true then Oper.wp Tryz.prog o a w K Q else E := by
 obtain ⟨i0, hi, hz0, hz1, hz2⟩ := info_parts info_int
 refine step_append_lies w hg s x t hop base 3 i0 (.int .i64 0) 1 8 ht hi hz0 hz1 hz2 rfl (by decide) v zs.length _ hs hown ⟨g, 0, none⟩ 1 c [.int .i64 z] hx rfl ?_ ?_ (by omega) ?_ ?_ hbase _ rfl ?_
 ·
  intro j u hj
  cases j with
  | zero => simp at hj; subst hj; exact hc
  | succ j => simp at hj
 ·
  intro u hu; simp at hu; subst hu; rfl
 ·
  unfold maxLen; omega
 ·
  omega
 ·
  intro gg cap w' h1 h2 h3 _
  exact hK gg cap w' (by unfold OwnV; simpa using h1) h2 h3
end Go.Proofs.YtlmajlfhjbhdpaaGreat
