/-
  'append' of one expression, as a step of a region that draws its order.
-/
import Derived.Test.YtcmodmchnokmgaaOwnE
import Derived.Test.YtcmodmchnokmgaaTyQ
namespace Go.Proofs.Ytcmodmchnokmgaa
set_option linter.unusedSimpArgs false
set_option linter.unusedVariables false
open Go.RowKit

theorem step_app_E {ops : Array Oper} {o : Oper} {a : Act} {w : World} {K : Act → World → Prop} {Q : Exit → Act → World → Prop} {E : Prop}
    (hg : o.guard = none) (s x : Operand) (t : TypeId) (hop : o.op = Op.call { callee := Callee.builtin Builtin.append, args := #[s, x], argTypes := #[t, t] }) (ht : Try.prog.underlying t = some (.slice 24))
    (base : Nat) (v : Value) (l : List Ex) (hs : a.eval s = v) (hown : OwnE w base v l) (g c : Nat) (y : Ex) (hx : a.eval x = .slice (some ⟨g, 0, none⟩) 1 c) (hr : Row w g y.cells) (hn : l.length ≤ 1000000000) (hbase : base ≤ w.heap.size)
    (hK : ∀ gg cap w', OwnE w' base (.slice (some ⟨gg, 0, none⟩) (l.length + 1) cap) (l ++ [y]) → w.grownBy w' v.ownBlock → (v.ownBlock = some gg ∨ gg = w.heap.size) → K (a.put o.dst (.slice (some ⟨gg, 0, none⟩) (l.length + 1) cap)) w') :
    if Region.wanted o (yielded ops a.tmps) = true then Oper.wp Try.prog o a w K Q else E := by
  obtain ⟨i0, hi, hz0, hz1, hz2⟩ := info_parts info_E
  refine step_append_lies w hg s x t hop base 24 i0 (.agg #[.int .i64 0, .int .i64 0, .slice none 0 0]) 3 40 ht hi hz0 hz1 hz2 rfl (by decide) v l.length _ hs hown ⟨g, 0, none⟩ 1 c y.cells hx rfl ?_ (fun u hu => Ex.cells_one hu) (by omega) ?_ ?_ hbase _ rfl ?_
  · intro j u hj
    rw [addr_add, Nat.zero_add]
    exact hr.cell j hj
  · unfold maxLen; omega
  · omega
  · intro gg cap w' h1 h2 h3 _
    refine hK gg cap w' ?_ h2 h3
    unfold OwnE
    rw [List.flatMap_append, List.length_append]
    simpa using h1

/-- The kids of a node that is being made: where they lie, and where not. -/
def KidsOk (w : World) (base : Nat) (v : Value) (zs : List Ex) : Prop := OwnE w base v zs ∧ ∀ z ∈ zs, z.In w ∧ (∀ g, g < base → z.Off g) ∧ (∀ g, v.ownBlock = some g → z.Off g)
theorem KidsOk.nil (w : World) (base : Nat) : KidsOk w base (.slice none 0 0) [] := ⟨OwnE.nil _ _, fun z hz => by simp at hz⟩
theorem KidsOk.step {w w1 : World} {base : Nat} {v : Value} {zs : List Ex} (h : KidsOk w base v zs) (hb : Below w.heap.size w w1) : KidsOk w1 base v zs :=
  ⟨h.1.step hb, fun z hz => ⟨(h.2 z hz).1.step hb, (h.2 z hz).2⟩⟩
theorem KidsOk.alloc {w : World} {base : Nat} {v : Value} {zs : List Ex} (h : KidsOk w base v zs) (o : Obj) : KidsOk (w.alloc o) base v zs := h.step ((Below.refl _ _).alloc (Nat.le_refl _) _)
theorem Ex.In.grown {w w1 : World} {g : Nat} {x : Ex} (h : x.In w) (ho : x.Off g) {s : Option Nat} (hg : w.grownBy w1 s) (hs : ∀ k, s = some k → k = g) : x.In w1 :=
  Ex.Off.step (g := g) (fun b hb hne => hg.block b hb (fun e => hne (hs b e.symm))) ho h
theorem KidsOk.snoc {w w1 : World} {base : Nat} {v : Value} {zs : List Ex} {y : Ex} {gg cap : Nat} (h : KidsOk w base v zs) (hy : y.In w) (hyo : ∀ g, g < base → y.Off g) (hyg : ∀ g, v.ownBlock = some g → y.Off g)
    (ho : OwnE w1 base (.slice (some ⟨gg, 0, none⟩) (zs.length + 1) cap) (zs ++ [y])) (hg : w.grownBy w1 v.ownBlock) (hgg : v.ownBlock = some gg ∨ gg = w.heap.size) : KidsOk w1 base (.slice (some ⟨gg, 0, none⟩) (zs.length + 1) cap) (zs ++ [y]) := by
  refine ⟨ho, fun z hz => ?_⟩
  have key : z.In w ∧ (∀ g, g < base → z.Off g) ∧ (∀ g, v.ownBlock = some g → z.Off g) := by
    rcases List.mem_append.1 hz with h1 | h1
    · exact h.2 z h1
    · simp at h1; subst h1; exact ⟨hy, hyo, hyg⟩
  obtain ⟨k1, k2, k3⟩ := key
  refine ⟨?_, k2, fun g e => ?_⟩
  · cases hv : v.ownBlock with
    | none => rw [hv] at hg; exact Ex.In.grown (g := w.heap.size) k1 (Ex.Off.far (Nat.le_refl _) k1) hg (fun k e => by cases e)
    | some g => rw [hv] at hg; exact Ex.In.grown (g := g) k1 (k3 g hv) hg (fun k e => by cases e; rfl)
  · have : g = gg := by simp [Value.ownBlock] at e; exact e.symm
    subst this
    rcases hgg with h1 | h1
    · exact k3 _ h1
    · exact Ex.Off.far (by omega) k1
/-- A block below the base is changed. -/
theorem KidsOk.ch {w w1 : World} {base b : Nat} {v : Value} {zs : List Ex} (h : KidsOk w base v zs) (hc : Ch (fun k => k = b) w w1) (hb : b < base) : KidsOk w1 base v zs := by
  refine ⟨h.1.ch hc (fun g e hgb => ?_), fun z hz => ⟨?_, (h.2 z hz).2⟩⟩
  · have := (h.1.lt e).1
    omega
  · exact Ex.Off.step (g := b) (fun k hk hne => hc.2.2.2.2 k hk hne) ((h.2 z hz).2.1 b hb) (h.2 z hz).1

end Go.Proofs.Ytcmodmchnokmgaa
