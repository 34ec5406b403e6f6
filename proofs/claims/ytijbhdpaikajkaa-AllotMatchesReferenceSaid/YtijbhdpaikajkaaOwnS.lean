/-
  'append' at ints as one step of a region that draws its order.
-/
import Derived.Test.YtijbhdpaikajkaaMBase
import Derived.Deep.RegionLawGrows
namespace Go.Proofs.Ytijbhdpaikajkaa
set_option linter.unusedSimpArgs false
set_option linter.unusedVariables false
open Go.RowKit

/-- The cells of a slice, as a list of values. -/
theorem SlI.cells {w : World} {a : Option Addr} {n : Nat} {zs : List Int} (h : SlI w a n zs) : ∀ b, a = some b → ∀ j u, (zs.map (Value.int .i64))[j]? = some u → w.cell? (b.add j) = some u := by
  intro b hb j u hu
  have hj : j < n := by
    have := (List.getElem?_eq_some_iff.1 hu).1
    simpa [h.1] using this
  obtain ⟨b', off, e, hc⟩ := h.2 j hj
  rw [hb] at e
  cases e
  rw [show (⟨b', off, none⟩ : Addr).add j = ⟨b', off + j, none⟩ by simp [Addr.add], hc]
  have hjz : j < zs.length := by rw [h.1]; exact hj
  simp [hjz] at hu
  simp [List.getD, hjz, hu]

/-- 'append' of one int to a full slice that came in: a new slice. -/
theorem step_grow_int {ops : Array Oper} {o : Oper} {a : Act} {w : World} {K : Act → World → Prop} {Q : Exit → Act → World → Prop} {E : Prop}
    (hg : o.guard = none) (s x : Operand) (t : TypeId) (hop : o.op = Op.call { callee := Callee.builtin Builtin.append, args := #[s, x], argTypes := #[t, t] }) (ht : Try.prog.underlying t = some (.slice 3))
    (ad : Addr) (n : Nat) (zs : List Int) (hs : a.eval s = .slice (some ad) n n) (hsl : SlI w (some ad) n zs) (g c : Nat) (z : Int) (hx : a.eval x = .slice (some ⟨g, 0, none⟩) 1 c) (hc : w.cell? ⟨g, 0, none⟩ = some (.int .i64 z)) (hn : n ≤ 1000000000000)
    (hK : ∀ v' w', OwnV w' w.heap.size v' (zs ++ [z]) → Below w.heap.size w w' → K (a.put o.dst v') w') :
    if Region.wanted o (yielded ops a.tmps) = true then Oper.wp Try.prog o a w K Q else E := by
  obtain ⟨i0, hi, hz0, hz1, hz2⟩ := info_parts info_int
  refine step_append_grows hg s x t hop 3 i0 (.int .i64 0) 1 8 ht hi hz0 hz1 hz2 rfl (by decide) (some ad) n n (zs.map (Value.int .i64)) hs (fun e => by cases e) (by simp [hsl.1]) (fun b e j u hu => hsl.cells b e j u hu)
    ⟨g, 0, none⟩ 1 c [.int .i64 z] hx rfl ?_ ?_ (by omega) (by unfold maxLen; omega) (by omega) ?_
  · intro j u hj
    cases j with
    | zero => simp at hj; subst hj; exact hc
    | succ j => simp at hj
  · intro u hu; simp at hu; subst hu; rfl
  · intro v' w' h1 h2
    refine hK v' w' ?_ ((Below.refl _ w).grown h2 (Nat.le_refl _) (fun k hk => by cases hk))
    unfold OwnV
    simpa [hsl.1] using h1

/-- 'append' of a slice of ints (it may be empty) to a slice of the call's own. -/
theorem step_own_ints {ops : Array Oper} {o : Oper} {a : Act} {w : World} {K : Act → World → Prop} {Q : Exit → Act → World → Prop} {E : Prop}
    (hg : o.guard = none) (s x : Operand) (t : TypeId) (hop : o.op = Op.call { callee := Callee.builtin Builtin.append, args := #[s, x], argTypes := #[t, t] }) (ht : Try.prog.underlying t = some (.slice 3))
    (base : Nat) (v : Value) (zs : List Int) (hs : a.eval s = v) (hown : OwnV w base v zs) (ad : Addr) (m c : Nat) (ys : List Int) (hx : a.eval x = .slice (some ad) m c) (hsl : SlI w (some ad) m ys)
    (hn : zs.length + m ≤ 1000000000000) (hbase : base ≤ w.heap.size)
    (hK : ∀ v' w', OwnV w' base v' (zs ++ ys) → (∀ w0, Below base w0 w → Below base w0 w') → w.heap.size ≤ w'.heap.size → K (a.put o.dst v') w') :
    if Region.wanted o (yielded ops a.tmps) = true then Oper.wp Try.prog o a w K Q else E := by
  obtain ⟨i0, hi, hz0, hz1, hz2⟩ := info_parts info_int
  have hw : Region.wanted o (yielded ops a.tmps) = true := by simp [Region.wanted, hg]
  rw [if_pos hw]
  obtain ⟨v', w', hrun, r1, r2, _⟩ := run_append_own (P := Try.prog) w base t o.type 3 i0 (.int .i64 0) 1 8 ht hi hz0 hz1 hz2 rfl (by decide) v zs.length (zs.map (Value.int .i64)) hown ad m c (ys.map (Value.int .i64)) (by simp [hsl.1]) (fun j u hu => hsl.cells ad rfl j u hu)
    (by intro u hu; simp at hu; obtain ⟨z, _, rfl⟩ := hu; rfl) (by unfold maxLen; omega) (by omega) hbase
  unfold Oper.wp
  simp [execOp, hop, resolve, invoke, builtin, hs, hx, hrun, Result.andThen]
  refine hK v' w' ?_ (fun w0 hb => hb.grown r2 hbase (fun k hk => (World.ownsRow.lt hown k hk).1)) r2.size
  unfold OwnV
  simpa [hsl.1] using r1

end Go.Proofs.Ytijbhdpaikajkaa
