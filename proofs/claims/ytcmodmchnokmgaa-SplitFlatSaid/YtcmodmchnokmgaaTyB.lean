/-
 The walks of package types: the map of operators.
-/
import Derived.Test.YtcmodmchnokmgaaTyA
namespace Go.Proofs.Ytcmodmchnokmgaa
set_option linter.unusedSimpArgs false
set_option linter.unusedVariables false
open Go.RowKit
set_option maxHeartbeats 800000 in
theorem always_any (t : Int) (w : World) :
  Calls Try.prog 67 #[.int .i64 t] w fun e w' => e = .returned (.func (.func 92) #[] #[.pointer (some ⟨w.heap.size, 0, none⟩)]) ∧ w' = w.alloc (.cells #[.int .i64 t] 3) := by
 go_enter Try.func67, Try.ntmps67
 go_wp2_with fail
 go_ret
 exact ⟨rfl, rfl⟩
theorem always1_any (t : Int) (ad : Option Addr) (n cap B : Nat) (w : World) (h : Row w B [.int .i64 t]) :
  Calls Try.prog 92 #[.slice ad n cap, .pointer (some ⟨B, 0, none⟩)] w fun e w' => e = .returned (.int .i64 t) ∧ Below w.heap.size w w' := by
 have c := h.cell 0 rfl
 have l := h.lt
 go_enter Try.func92, Try.ntmps92
 go_wp2_with fail
 go_ret
 exact ⟨rfl, Below.refl _ _⟩
/-- How many kids an operator has. -/
def kidN (op : Int) : Nat := if op = 1 ∨ op = 2 ∨ op = 3 then 0 else if op = 15 then 1 else if op = 10 then 3 else 2
/-- A function value that says what an operator makes of the types of its kids. -/
def FnTy (w : World) (v : Value) (op : Int) : Prop := ∃ (F : FuncId) (cs : Array Value), v = .func (.func F) #[] cs ∧ (∀ args w', (callFunc F args).run Try.prog w' = .ok (.enter F args) w') ∧ ∀ (w1 : World), Below w.heap.size w w1 → ∀ (ts : List Int) (ad : Option Addr) (cap : Nat), SlI w1 ad (kidN op) ts → (∀ t ∈ ts, 1 ≤ t ∧ t ≤ 3) →
  Calls Try.prog F (#[.slice ad (kidN op) cap] ++ cs) w1 fun e w' => e = tyE (tyOp op (ts.getD 0 0) (ts.getD 1 0) (ts.getD 2 0)) ∧ Below w1.heap.size w1 w'
theorem FnTy.step {w w1 : World} {v : Value} {op : Int} (h : FnTy w v op) (hb : Below w.heap.size w w1) : FnTy w1 v op := by
 obtain ⟨F, cs, e, hc, h⟩ := h
 exact ⟨F, cs, e, hc, fun w2 hb2 => h w2 (hb.trans (hb2.mono hb.size))⟩
/-- Block r is the map of operators. -/
def OpsM (w : World) (r : Nat) : Prop := ∃ f, IMap w r f ∧ ∀ op : Int, 1 ≤ op → op ≤ 15 → ∃ v, look f op = some v ∧ FnTy w v op
theorem OpsM.step {w w1 : World} {r : Nat} (h : OpsM w r) (hb : Below w.heap.size w w1) : OpsM w1 r := by
 obtain ⟨f, h1, h2⟩ := h
 exact ⟨f, h1.below hb, fun op a b => by obtain ⟨v, e, g⟩ := h2 op a b; exact ⟨v, e, g.step hb⟩⟩
theorem SlI.list2 {w : World} {ad : Option Addr} {ts : List Int} (h : SlI w ad 2 ts) : ∃ a b, ts = [a, b] := by
 have := h.1
 match ts, this with
 | [a, b], _ => exact ⟨a, b, rfl⟩
theorem SlI.list3 {w : World} {ad : Option Addr} {ts : List Int} (h : SlI w ad 3 ts) : ∃ a b c, ts = [a, b, c] := by
 have := h.1
 match ts, this with
 | [a, b, c], _ => exact ⟨a, b, c, rfl⟩
theorem SlI.list1 {w : World} {ad : Option Addr} {ts : List Int} (h : SlI w ad 1 ts) : ∃ a, ts = [a] := by
 have := h.1
 match ts, this with
 | [a], _ => exact ⟨a, rfl⟩
theorem fnTy_alike (w : World) {op : Int} (ho : op = 4 ∨ op = 5 ∨ op = 8 ∨ op = 9) : FnTy w (.func (.func 66) #[] #[]) op := by
 refine ⟨_, _, rfl, Try.call66, fun w1 _ ts ad cap hs hr => ?_⟩
 have hk : kidN op = 2 := by unfold kidN; rcases ho with rfl | rfl | rfl | rfl <;> rfl
 rw [hk] at hs ⊢
 obtain ⟨a, b, rfl⟩ := hs.list2
 have ha := hr a (by simp)
 have ht : tyOp op a b 0 = if a = b ∧ a ≠ 3 then a else 0 := by
  unfold tyOp; rw [if_neg (by omega), if_neg (by omega), if_pos ho]
 simp only [List.getD_cons_zero, List.getD_cons_succ, List.getD_nil]
 rw [ht]
 exact alike_any a b ad cap w1 hs (by omega)
theorem fnTy_compare (w : World) {op : Int} (ho : op = 11 ∨ op = 12) : FnTy w (.func (.func 65) #[] #[]) op := by
 refine ⟨_, _, rfl, Try.call65, fun w1 _ ts ad cap hs hr => ?_⟩
 have hk : kidN op = 2 := by unfold kidN; rcases ho with rfl | rfl <;> rfl
 rw [hk] at hs ⊢
 obtain ⟨a, b, rfl⟩ := hs.list2
 have ha := hr a (by simp)
 have ht : tyOp op a b 0 = if a = b ∧ a ≠ 3 then 3 else 0 := by
  unfold tyOp; rw [if_neg (by omega), if_neg (by omega), if_neg (by omega), if_neg (by omega), if_neg (by omega), if_pos ho]
 simp only [List.getD_cons_zero, List.getD_cons_succ, List.getD_nil]
 rw [ht]
 exact compare_any a b ad cap w1 hs (by omega)
theorem fnTy_truths2 (w : World) {op : Int} (ho : op = 13 ∨ op = 14) : FnTy w (.func (.func 68) #[] #[]) op := by
 refine ⟨_, _, rfl, Try.call68, fun w1 _ ts ad cap hs hr => ?_⟩
 have hk : kidN op = 2 := by unfold kidN; rcases ho with rfl | rfl <;> rfl
 rw [hk] at hs ⊢
 obtain ⟨a, b, rfl⟩ := hs.list2
 have ht : tyOp op a b 0 = if [a, b].all (fun t => decide (t = 3)) = true then 3 else 0 := by
  unfold tyOp; rw [if_neg (by omega), if_neg (by omega), if_neg (by omega), if_neg (by omega), if_neg (by omega), if_neg (by omega), if_pos ho]; simp
 simp only [List.getD_cons_zero, List.getD_cons_succ, List.getD_nil]
 rw [ht]
 exact truths_any [a, b] ad 2 cap w1 hs (by omega)
theorem fnTy_truths1 (w : World) : FnTy w (.func (.func 68) #[] #[]) 15 := by
 refine ⟨_, _, rfl, Try.call68, fun w1 _ ts ad cap hs hr => ?_⟩
 have hk : kidN 15 = 1 := rfl
 rw [hk] at hs ⊢
 obtain ⟨a, rfl⟩ := hs.list1
 have ht : tyOp 15 a 0 0 = if [a].all (fun t => decide (t = 3)) = true then 3 else 0 := by
  unfold tyOp; simp
 simp only [List.getD_cons_zero, List.getD_cons_succ, List.getD_nil]
 rw [ht]
 exact truths_any [a] ad 1 cap w1 hs (by omega)
theorem fnTy_mul (w : World) : FnTy w (.func (.func 69) #[] #[]) 6 := by
 refine ⟨_, _, rfl, Try.call69, fun w1 _ ts ad cap hs hr => ?_⟩
 have hk : kidN 6 = 2 := rfl
 rw [hk] at hs ⊢
 obtain ⟨a, b, rfl⟩ := hs.list2
 have ht : tyOp 6 a b 0 = mulT a b := by unfold tyOp mulT; simp
 simp only [List.getD_cons_zero, List.getD_cons_succ, List.getD_nil]
 rw [ht]
 exact mul_any a b ad cap w1 hs (hr a (by simp)) (hr b (by simp))
theorem fnTy_div (w : World) : FnTy w (.func (.func 72) #[] #[]) 7 := by
 refine ⟨_, _, rfl, Try.call72, fun w1 _ ts ad cap hs hr => ?_⟩
 have hk : kidN 7 = 2 := rfl
 rw [hk] at hs ⊢
 obtain ⟨a, b, rfl⟩ := hs.list2
 have ha := hr a (by simp)
 have ht : tyOp 7 a b 0 = if b = 1 ∧ a ≠ 3 then a else 0 := by unfold tyOp; simp
 simp only [List.getD_cons_zero, List.getD_cons_succ, List.getD_nil]
 rw [ht]
 exact div_any a b ad cap w1 hs (by omega)
theorem fnTy_if (w : World) : FnTy w (.func (.func 73) #[] #[]) 10 := by
 refine ⟨_, _, rfl, Try.call73, fun w1 _ ts ad cap hs hr => ?_⟩
 have hk : kidN 10 = 3 := rfl
 rw [hk] at hs ⊢
 obtain ⟨a, b, c, rfl⟩ := hs.list3
 have ha := hr b (by simp)
 have ht : tyOp 10 a b c = if a = 3 ∧ b = c then b else 0 := by unfold tyOp; simp
 simp only [List.getD_cons_zero, List.getD_cons_succ, List.getD_nil]
 rw [ht]
 exact if_any a b c ad cap w1 hs (by omega)
theorem fnTy_always (w : World) {op t : Int} (B : Nat) (h : Row w B [.int .i64 t]) (ho : (op = 1 ∨ op = 3) ∧ t = 1 ∨ op = 2 ∧ t = 2) : FnTy w (.func (.func 92) #[] #[.pointer (some ⟨B, 0, none⟩)]) op := by
 refine ⟨_, _, rfl, Try.call92, fun w1 hb ts ad cap hs hr => ?_⟩
 have hk : kidN op = 0 := by unfold kidN; rw [if_pos (by omega)]
 rw [hk] at hs ⊢
 have ht : tyOp op (ts.getD 0 0) (ts.getD 1 0) (ts.getD 2 0) = t := by
  unfold tyOp
  rcases ho with ⟨h1, h2⟩ | ⟨h1, h2⟩
  ·
   rw [if_pos h1, h2]
  ·
   rw [if_neg (by omega), if_pos h1, h2]
 rw [ht, tyE_yes (by omega)]
 exact always1_any t ad 0 cap B w1 (h.step hb)
/-- The map while it is filled. -/
def OpB (w0 W : World) (f : List (Int × Value)) (Bs : List (Nat × Int)) : Prop := Below w0.heap.size w0 W ∧ w0.heap.size < W.heap.size ∧ IMap W w0.heap.size f ∧ ∀ x ∈ Bs, w0.heap.size < x.1 ∧ Row W x.1 [.int .i64 x.2]
theorem OpB.imap {w0 W : World} {f : List (Int × Value)} {Bs : List (Nat × Int)} (h : OpB w0 W f Bs) : IMap W w0.heap.size f := h.2.2.1
theorem OpB.made (w0 : World) : OpB w0 (w0.alloc (.map #[] 0)) [] [] := ⟨by (repeat' (first | (with_reducible first | exact Below.refl _ _ | assumption | exact Bw.out (by assumption) | refine bw_alloc ?_ _ | refine bw_step ?_ (by assumption) | refine Below.alloc ?_ ?_ _ | refine Below.drew ?_ | refine below_drewN ?_ _ | refine Below.setCell ?_ ?_ _ | refine below_step ?_ (by assumption) ?_ | exact Nat.le_refl _) | omega | (simp; omega) | (simp; done))), by simp, imap_made w0, fun x hx => by simp at hx⟩
theorem OpB.put {w0 W W' : World} {f g : List (Int × Value)} {Bs : List (Nat × Int)} (h : OpB w0 W f Bs) (hm : IMap W' w0.heap.size g) (hg : W.grownBy W' (some w0.heap.size)) : OpB w0 W' g Bs :=
 ⟨h.1.grown hg h.1.size (fun k e => by cases e; exact Nat.le_refl _), Nat.lt_of_lt_of_le h.2.1 hg.size, hm, fun x hx => ⟨(h.2.2.2 x hx).1, (h.2.2.2 x hx).2.of_block (hg.block x.1 (h.2.2.2 x hx).2.lt (fun e => by
  have := (h.2.2.2 x hx).1
  have e2 : x.1 = w0.heap.size := by injection e
  omega))⟩⟩
theorem OpB.box {w0 W : World} {f : List (Int × Value)} {Bs : List (Nat × Int)} (h : OpB w0 W f Bs) (t : Int) {B : Nat} (hB : B = W.heap.size) : OpB w0 (W.alloc (.cells #[.int .i64 t] 3)) f ((B, t) :: Bs) := by
 subst hB
 have hb : Below w0.heap.size w0 (W.alloc (.cells #[.int .i64 t] 3)) := h.1.alloc h.1.size _
 refine ⟨hb, by simp; have := h.2.1; omega, h.2.2.1.alloc _, fun x hx => ?_⟩
 rcases List.mem_cons.1 hx with rfl | hx
 ·
  exact ⟨h.2.1, by (repeat' (first | (with_reducible assumption) | (with_reducible refine Row.new' _ _ _ (by first | rfl | (simp; done) | omega)) | (with_reducible refine Row.alloc ?_ _) | (with_reducible refine Row.drew ?_) | (with_reducible refine Row.drewN ?_ _) | (with_reducible refine Row.step ?_ (by with_reducible assumption))))⟩
 ·
  exact ⟨(h.2.2.2 x hx).1, (h.2.2.2 x hx).2.alloc _⟩
def opsF (B1 B2 B3 : Nat) : List (Int × Value) := upd (upd (upd (upd (upd (upd (upd (upd (upd (upd (upd (upd (upd (upd (upd [] 1 (.func (.func 92) #[] #[.pointer (some ⟨B1, 0, none⟩)])) 3 (.func (.func 92) #[] #[.pointer (some ⟨B2, 0, none⟩)])) 2 (.func (.func 92) #[] #[.pointer (some ⟨B3, 0, none⟩)])) 4 (.func (.func 66) #[] #[])) 5 (.func (.func 66) #[] #[])) 8 (.func (.func 66) #[] #[])) 9 (.func (.func 66) #[] #[])) 11 (.func (.func 65) #[] #[])) 12 (.func (.func 65) #[] #[])) 13 (.func (.func 68) #[] #[])) 14 (.func (.func 68) #[] #[])) 15 (.func (.func 68) #[] #[])) 6 (.func (.func 69) #[] #[])) 7 (.func (.func 72) #[] #[])) 10 (.func (.func 73) #[] #[])
theorem opsM_of {w0 W : World} {B1 B2 B3 : Nat} (h : OpB w0 W (opsF B1 B2 B3) [(B3, 2), (B2, 1), (B1, 1)]) : OpsM W w0.heap.size := by
 obtain ⟨_, _, hm, hr⟩ := h
 refine ⟨_, hm, fun op h1 h2 => ?_⟩
 have hc : op = 1 ∨ op = 2 ∨ op = 3 ∨ op = 4 ∨ op = 5 ∨ op = 6 ∨ op = 7 ∨ op = 8 ∨ op = 9 ∨ op = 10 ∨ op = 11 ∨ op = 12 ∨ op = 13 ∨ op = 14 ∨ op = 15 := by omega
 rcases hc with rfl | rfl | rfl | rfl | rfl | rfl | rfl | rfl | rfl | rfl | rfl | rfl | rfl | rfl | rfl
 ·
  exact ⟨_, by simp [opsF, upd, look], fnTy_always _ B1 (hr (B1, 1) (by simp)).2 (by simp)⟩
 ·
  exact ⟨_, by simp [opsF, upd, look], fnTy_always _ B3 (hr (B3, 2) (by simp)).2 (by simp)⟩
 ·
  exact ⟨_, by simp [opsF, upd, look], fnTy_always _ B2 (hr (B2, 1) (by simp)).2 (by simp)⟩
 ·
  exact ⟨_, by simp [opsF, upd, look], fnTy_alike _ (by simp)⟩
 ·
  exact ⟨_, by simp [opsF, upd, look], fnTy_alike _ (by simp)⟩
 ·
  exact ⟨_, by simp [opsF, upd, look], fnTy_mul _⟩
 ·
  exact ⟨_, by simp [opsF, upd, look], fnTy_div _⟩
 ·
  exact ⟨_, by simp [opsF, upd, look], fnTy_alike _ (by simp)⟩
 ·
  exact ⟨_, by simp [opsF, upd, look], fnTy_alike _ (by simp)⟩
 ·
  exact ⟨_, by simp [opsF, upd, look], fnTy_if _⟩
 ·
  exact ⟨_, by simp [opsF, upd, look], fnTy_compare _ (by simp)⟩
 ·
  exact ⟨_, by simp [opsF, upd, look], fnTy_compare _ (by simp)⟩
 ·
  exact ⟨_, by simp [opsF, upd, look], fnTy_truths2 _ (by simp)⟩
 ·
  exact ⟨_, by simp [opsF, upd, look], fnTy_truths2 _ (by simp)⟩
 ·
  exact ⟨_, by simp [opsF, upd, look], fnTy_truths1 _⟩
set_option maxRecDepth 100000 in
set_option maxHeartbeats 6400000 in
theorem operators_any (w : World) :
  Calls Try.prog 43 #[] w fun e w' => ∃ r, e = .returned (.map (some r)) ∧ OpsM w' r ∧ Below w.heap.size w w' := by
 have hmm := @run_makeMap Try.prog
 have hS := OpB.made w
 go_enter Try.func43, Try.ntmps43
 go_wp2_with (first
  | (go_at_call 67; refine (always_any _ _).mono ?_; rintro e w' ⟨rfl, rfl⟩; have hT := hS.box 1 (B := w.heap.size + 1) (by simp))
  | (refine wpList_update_imap _ rfl _ _ _ 79 (.inr rfl) 3 61 Try.underlying79 Try.underlying3 _ _ rfl (by first | exact OpB.imap (by assumption) | exact IMap.alloc (OpB.imap (by assumption)) _) _ _ rfl rfl ?_; intro w1 hm1 hg1; have hU := OpB.put (by first | assumption | exact OpB.box (by assumption) _ rfl) hm1 hg1; clear hm1 hg1))
 have hE : ∃ B1 B2 B3, OpB w _ (opsF B1 B2 B3) [(B3, 2), (B2, 1), (B1, 1)] := ⟨_, _, _, hU⟩
 obtain ⟨B1, B2, B3, hE⟩ := hE
 go_ret
 exact ⟨_, rfl, opsM_of hE, hE.1⟩
end Go.Proofs.Ytcmodmchnokmgaa
