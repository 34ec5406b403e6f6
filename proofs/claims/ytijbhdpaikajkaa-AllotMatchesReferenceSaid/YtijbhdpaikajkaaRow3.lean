/-
  A row of three cells stored anew; a region that makes three variables.
-/
import Derived.Test.YtijbhdpaikajkaaMBase
import Derived.Test.YtijbhdpaikajkaaMFence
import Derived.Test.YtijbhdpaikajkaaShareI0
namespace Go.Proofs.Ytijbhdpaikajkaa
set_option linter.unusedSimpArgs false
set_option linter.unusedVariables false
open Go.RowKit

theorem Row.putAt {w : World} {b : Nat} {cs ds : List Value} (h : Row w b cs) (i : Nat) (v : Value) (hd : cs.set i v = ds) : Row (w.setCell ⟨b, i, none⟩ v) b ds := by
  obtain ⟨T, h⟩ := h
  subst hd
  exact ⟨T, by simp [World.setCell, Array.getElem?_modify, h]⟩
theorem heap_set3 {w : World} {b c : Nat} (h : c ≠ b) (v0 v1 v2 : Value) : (((w.setCell ⟨b, 0, none⟩ v0).setCell ⟨b, 1, none⟩ v1).setCell ⟨b, 2, none⟩ v2).heap[c]? = w.heap[c]? := by
  simp [World.setCell, Array.getElem?_modify, Ne.symm h]
theorem Row.put3 {w : World} {b : Nat} {x0 x1 x2 : Value} (h : Row w b [x0, x1, x2]) (v0 v1 v2 : Value) :
    ∃ wB, ((w.setCell ⟨b, 0, none⟩ v0).setCell ⟨b, 1, none⟩ v1).setCell ⟨b, 2, none⟩ v2 = wB ∧ Row wB b [v0, v1, v2] ∧ (∀ c, c ≠ b → wB.heap[c]? = w.heap[c]?) ∧ (∀ B w0, B ≤ b → Below B w0 w → Below B w0 wB) :=
  ⟨_, rfl, ((h.putAt 0 v0 rfl).putAt 1 v1 rfl).putAt 2 v2 rfl, fun c hc => heap_set3 hc v0 v1 v2, fun B w0 hB hb => by
    refine ((hb.setCell (by exact hB) _).setCell (by exact hB) _).setCell (by exact hB) _⟩
theorem heap_new (w : World) (o : Obj) : (w.alloc o).heap[w.heap.size]? = some o := by show (w.heap.push _)[w.heap.size]? = _; simp
/-- An empty slice whose block is the call's own. -/
theorem OwnV.lit {w : World} {base g : Nat} (h : ∃ T, w.heap[g]? = some (.cells #[] T (0, 0)) ∧ T = 3) (hb : base ≤ g) : OwnV w base (.slice (some ⟨g, 0, none⟩) 0 0) [] := by
  obtain ⟨T, h, rfl⟩ := h
  exact ⟨rfl, Or.inr ⟨g, 0, #[], rfl, hb, h, Nat.le_refl _, by unfold maxLen; omega, rfl, rfl⟩⟩
theorem OwnV.own2 {w : World} {base n : Nat} {v : Value} {zs : List Int} (h : OwnV w base v zs) (hn : zs.length = n) (h0 : 0 < n) :
    ∃ g cap, v = .slice (some ⟨g, 0, none⟩) n cap ∧ base ≤ g ∧ OwnI w g zs ∧ n ≤ cap ∧ cap ≤ maxLen := by
  subst hn
  exact h.own h0
/-- 'append' of a slice of ints (it is not empty) to a slice of the call's own. -/
theorem wpList_append_ints {w : World} {ops : Array Oper} {rest : List Oper} {o : Oper} {a : Act} {Q : Exit → Act → World → Prop} (hgd : o.guard = none) (s x : Operand) (t : TypeId)
    (ho : o.op = .call { callee := .builtin .append, args := #[s, x], argTypes := #[t, t] }) (ht : Try.prog.underlying t = some (.slice 3))
    (base : Nat) (v : Value) (zs : List Int) (hs : a.eval s = v) (hown : OwnV w base v zs) (ad : Addr) (m c : Nat) (ys : List Int) (hx : a.eval x = .slice (some ad) m c) (hsl : SlI w (some ad) m ys)
    (hn : zs.length + m ≤ 1000000000000) (hbase : base ≤ w.heap.size)
    (h : ∀ v' w', OwnV w' base v' (zs ++ ys) → (∀ w0, Below base w0 w → Below base w0 w') → w.heap.size ≤ w'.heap.size → wpList Try.prog ops Q rest (a.put o.dst v') w') : wpList Try.prog ops Q (o :: rest) a w := by
  obtain ⟨i0, hi, hz0, hz1, hz2⟩ := info_parts info_int
  refine wpList_append_own w hgd s x t ho base 3 i0 (.int .i64 0) 1 8 ht hi hz0 hz1 hz2 rfl (by decide) v zs.length _ hs hown ad m c (ys.map (Value.int .i64)) hx (by simp [hsl.1]) ?_ ?_ ?_ ?_ hbase ?_
  · intro j u hu; exact hsl.cells ad rfl j u hu
  · intro u hu; simp at hu; obtain ⟨z, _, rfl⟩ := hu; rfl
  · unfold maxLen; omega
  · omega
  · intro v' w' h1 h2 _
    refine h v' w' ?_ (fun w0 hb => ?_) h2.size
    · unfold OwnV; simpa [hsl.1] using h1
    · exact hb.grown h2 hbase (fun k hk => (World.ownsRow.lt hown k hk).1)

theorem AnyJ.three {P : Program} {ops : Array Oper} {Q : Exit → Act → World → Prop} {md : Region.Mode} {S : World → Prop} {J : Nat → Bool} {i j k : Nat} {o p q : Oper} {f : Nat} {ls : Array Bool} {a : Act} {w : World} (hr : Region.ready md ops ls = [i, j, k]) (ho : ops[i]? = some o) (hp : ops[j]? = some p) (hq : ops[k]? = some q)
    (h : ∀ K : Act → World → Prop, (∀ b v, (J i = true → S v) → AnyJ P md ops Q S J f (ls.setIfInBounds i true) b v → K b v) → if Region.wanted o (yielded ops a.tmps) = true then Oper.wp P o a w K Q else K (a.put o.dst undef) w)
    (h2 : ∀ K : Act → World → Prop, (∀ b v, (J j = true → S v) → AnyJ P md ops Q S J f (ls.setIfInBounds j true) b v → K b v) → if Region.wanted p (yielded ops a.tmps) = true then Oper.wp P p a w K Q else K (a.put p.dst undef) w)
    (h3 : ∀ K : Act → World → Prop, (∀ b v, (J k = true → S v) → AnyJ P md ops Q S J f (ls.setIfInBounds k true) b v → K b v) → if Region.wanted q (yielded ops a.tmps) = true then Oper.wp P q a w K Q else K (a.put q.dst undef) w) : AnyJ P md ops Q S J (f + 1) ls a w :=
  ⟨fun e => absurd e (by rw [hr]; exact List.cons_ne_nil _ _), fun x hx => by
    rw [hr] at hx
    rcases List.mem_cons.1 hx with e | hx
    · subst e; exact wpOp_step ho (fun K hK => h K (fun b v h1 h2 => hK b v ⟨h1, h2⟩))
    rcases List.mem_cons.1 hx with e | hx
    · subst e; exact wpOp_step hp (fun K hK => h2 K (fun b v h1 h2 => hK b v ⟨h1, h2⟩))
    · rw [List.mem_singleton] at hx
      subst hx; exact wpOp_step hq (fun K hK => h3 K (fun b v h1 h2 => hK b v ⟨h1, h2⟩))⟩

end Go.Proofs.Ytijbhdpaikajkaa
