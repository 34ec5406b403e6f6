/-
 The walks of package rate: the map of operators.
-/
import Derived.Test.YtcmodmchnokmgaaEvC
namespace Go.Proofs.Ytcmodmchnokmgaa
set_option linter.unusedSimpArgs false
set_option linter.unusedVariables false
open Go.RowKit
/-- A function value that does what an operator does. -/
def FnV (w : World) (v : Value) (op : Int) : Prop := ∃ (F : FuncId) (cs : Array Value), v = .func (.func F) #[] cs ∧ (∀ args w', (callFunc F args).run Try.prog w' = .ok (.enter F args) w') ∧ ∀ (w1 : World), Below w.heap.size w w1 → ∀ (a b c d : Int), vldP a b → vldP c d →
  Calls Try.prog F (#[.agg #[.int .i64 a, .int .i64 b], .agg #[.int .i64 c, .int .i64 d]] ++ cs) w1 fun e w' => e = vE (ap2 op a b c d) ∧ Below w1.heap.size w1 w'
theorem FnV.step {w w1 : World} {v : Value} {op : Int} (h : FnV w v op) (hb : Below w.heap.size w w1) : FnV w1 v op := by
 obtain ⟨F, cs, e, hc, h⟩ := h
 exact ⟨F, cs, e, hc, fun w2 hb2 => h w2 (hb.trans (hb2.mono hb.size))⟩
/-- Block r is the map of operators. -/
def OpsV (w : World) (r : Nat) : Prop := ∃ f, IMap w r f ∧ ∀ op : Int, 4 ≤ op → op ≤ 14 → op ≠ 10 → ∃ v, look f op = some v ∧ FnV w v op
theorem OpsV.step {w w1 : World} {r : Nat} (h : OpsV w r) (hb : Below w.heap.size w w1) : OpsV w1 r := by
 obtain ⟨f, h1, h2⟩ := h
 exact ⟨f, h1.below hb, fun op a b c => by obtain ⟨v, e, g⟩ := h2 op a b c; exact ⟨v, e, g.step hb⟩⟩
theorem fnV_Add (w : World) : FnV w (.func (.func 111) #[] #[]) 4 :=
 ⟨_, _, rfl, Try.call111, fun w1 _ a b c d h1 h2 => Add_op a b c d w1 h1 h2⟩
theorem fnV_Sub (w : World) : FnV w (.func (.func 114) #[] #[]) 5 :=
 ⟨_, _, rfl, Try.call114, fun w1 _ a b c d h1 h2 => Sub_op a b c d w1 h1 h2⟩
theorem fnV_Mul (w : World) : FnV w (.func (.func 116) #[] #[]) 6 :=
 ⟨_, _, rfl, Try.call116, fun w1 _ a b c d h1 h2 => Mul_op a b c d w1 h1 h2⟩
theorem fnV_Div (w : World) : FnV w (.func (.func 118) #[] #[]) 7 :=
 ⟨_, _, rfl, Try.call118, fun w1 _ a b c d h1 h2 => Div_op a b c d w1 h1 h2⟩
theorem fnV_Less (w : World) : FnV w (.func (.func 121) #[] #[]) 11 :=
 ⟨_, _, rfl, Try.call121, fun w1 _ a b c d h1 h2 => Less_op a b c d w1 ⟩
theorem fnV_Same (w : World) : FnV w (.func (.func 124) #[] #[]) 12 :=
 ⟨_, _, rfl, Try.call124, fun w1 _ a b c d h1 h2 => Same_op a b c d w1 ⟩
theorem fnV_And (w : World) : FnV w (.func (.func 125) #[] #[]) 13 :=
 ⟨_, _, rfl, Try.call125, fun w1 _ a b c d h1 h2 => And_op a b c d w1 ⟩
theorem fnV_Or (w : World) : FnV w (.func (.func 126) #[] #[]) 14 :=
 ⟨_, _, rfl, Try.call126, fun w1 _ a b c d h1 h2 => Or_op a b c d w1 ⟩
theorem fnV_min (w : World) (B : Nat) (h : Row w B [.int .i64 (-1)]) : FnV w (.func (.func 133) #[] #[.pointer (some ⟨B, 0, none⟩)]) 8 :=
 ⟨_, _, rfl, Try.call133, fun w1 hb a b c d _ _ => better_min a b c d B w1 (h.step hb)⟩
theorem fnV_max (w : World) (B : Nat) (h : Row w B [.int .i64 1]) : FnV w (.func (.func 133) #[] #[.pointer (some ⟨B, 0, none⟩)]) 9 :=
 ⟨_, _, rfl, Try.call133, fun w1 hb a b c d _ _ => better_max a b c d B w1 (h.step hb)⟩
def opsV (B1 B2 : Nat) : List (Int × Value) := upd (upd (upd (upd (upd (upd (upd (upd (upd (upd [] 4 (.func (.func 111) #[] #[])) 5 (.func (.func 114) #[] #[])) 6 (.func (.func 116) #[] #[])) 7 (.func (.func 118) #[] #[])) 8 (.func (.func 133) #[] #[.pointer (some ⟨B1, 0, none⟩)])) 9 (.func (.func 133) #[] #[.pointer (some ⟨B2, 0, none⟩)])) 11 (.func (.func 121) #[] #[])) 12 (.func (.func 124) #[] #[])) 13 (.func (.func 125) #[] #[])) 14 (.func (.func 126) #[] #[])
theorem opsV_of {w0 W : World} {B1 B2 : Nat} (h : OpB w0 W (opsV B1 B2) [(B2, 1), (B1, -1)]) : OpsV W w0.heap.size := by
 obtain ⟨_, _, hm, hr⟩ := h
 refine ⟨_, hm, fun op h1 h2 h3 => ?_⟩
 have hc : op = 4 ∨ op = 5 ∨ op = 6 ∨ op = 7 ∨ op = 8 ∨ op = 9 ∨ op = 11 ∨ op = 12 ∨ op = 13 ∨ op = 14 := by omega
 rcases hc with rfl | rfl | rfl | rfl | rfl | rfl | rfl | rfl | rfl | rfl
 ·
  exact ⟨_, by simp [opsV, upd, look], fnV_Add _⟩
 ·
  exact ⟨_, by simp [opsV, upd, look], fnV_Sub _⟩
 ·
  exact ⟨_, by simp [opsV, upd, look], fnV_Mul _⟩
 ·
  exact ⟨_, by simp [opsV, upd, look], fnV_Div _⟩
 ·
  exact ⟨_, by simp [opsV, upd, look], fnV_min _ B1 (hr (B1, -1) (by simp)).2⟩
 ·
  exact ⟨_, by simp [opsV, upd, look], fnV_max _ B2 (hr (B2, 1) (by simp)).2⟩
 ·
  exact ⟨_, by simp [opsV, upd, look], fnV_Less _⟩
 ·
  exact ⟨_, by simp [opsV, upd, look], fnV_Same _⟩
 ·
  exact ⟨_, by simp [opsV, upd, look], fnV_And _⟩
 ·
  exact ⟨_, by simp [opsV, upd, look], fnV_Or _⟩
set_option maxRecDepth 100000 in
set_option maxHeartbeats 6400000 in
theorem opsR_any (w : World) :
  Calls Try.prog 100 #[] w fun e w' => ∃ r, e = .returned (.map (some r)) ∧ OpsV w' r ∧ Below w.heap.size w w' := by
 have hmm := @run_makeMap Try.prog
 have hS := OpB.made w
 go_enter Try.func100, Try.ntmps100
 go_wp2_with (first
  | (go_at_call 120; refine (better_any _ _).mono ?_; rintro e w' ⟨rfl, rfl⟩; first | (have hT := hU.box (-1) (B := w2.heap.size) rfl) | skip)
  | (refine wpList_update_imap _ rfl _ _ _ 139 (.inr rfl) 3 153 Try.underlying139 Try.underlying3 _ _ rfl (by first | exact OpB.imap (by assumption) | exact IMap.alloc (OpB.imap (by assumption)) _) _ _ rfl rfl ?_; intro w1 hm1 hg1; have hU := OpB.put (by first | assumption | exact OpB.box (by assumption) _ rfl) hm1 hg1; clear hm1 hg1))
 have hE : ∃ B1 B2, OpB w _ (opsV B1 B2) [(B2, 1), (B1, -1)] := ⟨_, _, hU⟩
 obtain ⟨B1, B2, hE⟩ := hE
 go_ret
 exact ⟨_, rfl, opsV_of hE, hE.1⟩
end Go.Proofs.Ytcmodmchnokmgaa
