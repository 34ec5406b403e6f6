/-
  The walk of the reference's Promise where it returns a scene; first the plain facts: what is left behind some channels.
-/
import Derived.Test.YtijbhdpaikajkaaWRefB
import Derived.Test.YtijbhdpaikajkaaRTopN
import Derived.Test.YtijbhdpaikajkaaRow3
import Derived.Maps.AppendAt
namespace Go.Proofs.Ytijbhdpaikajkaa
set_option linter.unusedSimpArgs false
set_option linter.unusedVariables false
open Go.RowKit

/-- What is left behind the channels l. -/
def lfI (zs : List Int) : Int → List Int → Int
  | left, [] => left
  | left, i :: r => if left = 0 then 0 else lfI zs (left - min left (shr zs i)) r
theorem lfI_zero (zs : List Int) : ∀ l, lfI zs 0 l = 0
  | [] => rfl
  | i :: r => by simp [lfI]
theorem sellC_snoc (zs : List Int) (x : Int) : ∀ (l : List Int) (left : Int), sellC zs left (l ++ [x]) = if lfI zs left l = 0 then sellC zs left l else sellC zs left l ++ [x]
  | [], left => by by_cases h : left = 0 <;> simp [sellC, lfI, h]
  | i :: r, left => by
    rw [List.cons_append]
    unfold sellC lfI
    by_cases h : left = 0
    · simp [h]
    · simp only [if_neg h]
      rw [sellC_snoc zs x r]
      split <;> simp
theorem sellS_snoc (zs : List Int) (x : Int) : ∀ (l : List Int) (left : Int), sellS zs left (l ++ [x]) = if lfI zs left l = 0 then sellS zs left l else sellS zs left l ++ [min (lfI zs left l) (shr zs x)]
  | [], left => by by_cases h : left = 0 <;> simp [sellS, lfI, h]
  | i :: r, left => by
    rw [List.cons_append]
    unfold sellS lfI
    by_cases h : left = 0
    · simp [h]
    · simp only [if_neg h]
      rw [sellS_snoc zs x r]
      split <;> simp
theorem lfI_snoc (zs : List Int) (x : Int) : ∀ (l : List Int) (left : Int), lfI zs left (l ++ [x]) = if lfI zs left l = 0 then 0 else lfI zs left l - min (lfI zs left l) (shr zs x)
  | [], left => by by_cases h : left = 0 <;> simp [lfI, h]
  | i :: r, left => by
    rw [List.cons_append]
    unfold lfI
    by_cases h : left = 0
    · simp [h]
    · simp only [if_neg h]
      exact lfI_snoc zs x r _
theorem lfI_in (zs : List Int) (h0 : ∀ i : Int, 0 ≤ shr zs i) : ∀ (l : List Int) (left : Int), 0 ≤ left → 0 ≤ lfI zs left l ∧ lfI zs left l ≤ left
  | [], left, h => ⟨h, Int.le_refl _⟩
  | i :: r, left, h => by
    unfold lfI
    split
    · omega
    · have hi := h0 i
      have ih := lfI_in zs h0 r (left - min left (shr zs i)) (by omega)
      omega

/-- 'append' of one int; and where the new slice lies. -/
theorem wpList_append_int_at {w : World} {ops : Array Oper} {rest : List Oper} {o : Oper} {a : Act} {Q : Exit → Act → World → Prop} (hgd : o.guard = none) (s x : Operand) (t : TypeId)
    (ho : o.op = .call { callee := .builtin .append, args := #[s, x], argTypes := #[t, t] }) (ht : Try.prog.underlying t = some (.slice 3))
    (base : Nat) (v : Value) (zs : List Int) (hs : a.eval s = v) (hown : OwnV w base v zs) (g c : Nat) (z : Int) (hx : a.eval x = .slice (some ⟨g, 0, none⟩) 1 c) (hc : w.cell? ⟨g, 0, none⟩ = some (.int .i64 z))
    (hn : zs.length ≤ 1000000000000) (hbase : base ≤ w.heap.size)
    (h : ∀ v' w', OwnV w' base v' (zs ++ [z]) → w.grownBy w' v.ownBlock → (v'.ownBlock = v.ownBlock ∨ v'.ownBlock = some w.heap.size) → wpList Try.prog ops Q rest (a.put o.dst v') w') : wpList Try.prog ops Q (o :: rest) a w := by
  obtain ⟨i0, hi, hz0, hz1, hz2⟩ := info_parts info_int
  refine wpList_append_own_at w hgd s x t ho base 3 i0 (.int .i64 0) 1 8 ht hi hz0 hz1 hz2 rfl (by decide) v zs.length _ hs hown ⟨g, 0, none⟩ 1 c [.int .i64 z] hx rfl ?_ ?_ ?_ ?_ hbase ?_
  · intro j u hj
    cases j with
    | zero => simp at hj; subst hj; exact hc
    | succ j => simp at hj
  · intro u hu; simp at hu; subst hu; rfl
  · unfold maxLen; omega
  · omega
  · intro v' w' h1 h2 _ h4
    exact h v' w' (by unfold OwnV; simpa using h1) h2 h4

end Go.Proofs.Ytijbhdpaikajkaa
