/-
 Ranges over functions: how a plain walk meets one. A region that draws its order, within a round; a function's contract from a body that holds such a range.
-/
import Derived.Test.YtlmajlfhjbhdpaaGreatOwnV
import Derived.RangeFuncNested
import Derived.RangeFuncBound
import Derived.RangeFuncCalls
import Derived.RangeFuncLeaves
import Derived.Shelf.Abstract
import Derived.Shelf.RegionOpen
import Derived.OwnWalkIn
import Derived.TacticsInMore
import Derived.LoopNIn
import Derived.LoopIn
import Derived.OrdersIn
import Derived.OrdersHeld
namespace Go.Proofs.YtlmajlfhjbhdpaaGreat
set_option linter.unusedSimpArgs false
set_option linter.unusedVariables false
open Go.RowKit
theorem calls_in {n : Nat} {P : Program} {f : FuncId} {args : Array Value} {w : World} {R : Ending → World → Prop} (l : Nat) (h : Calls P f args w R) : CallsIn (Fence.wide.inRound l) n P f args w R :=
 CallsIn.inRound l (callsIn_wide.2 h)
theorem calls_of_wp_marks {P : Program} {f : FuncId} {fn : Func} {c : Code} {args : Array Value} {w : World} {R : Ending → World → Prop} (hf : P.funcs[f]? = some fn) (hb : fn.body = some c)
  (h : c.wp P (bodyPostM Fence.wide 6 P fn R) { tmps := args ++ Array.replicate (fn.ntmps - args.size) undef, defers := [] } w) : Calls P f args w R :=
 (callsIn_wide (n := 6)).1 (callsIn_of_wp_marks hf hb trivial (wpIn_wide.2 h) rfl)
/-- No operation is a 'defer' statement, and none calls a row. -/
def tameOps (ops : Array Oper) : Bool := ops.all fun o => match o.op with | .defer _ => false | _ => true
theorem tame_at {ops : Array Oper} (h : tameOps ops = true) {i : Nat} {o : Oper} (ho : ops[i]? = some o) : ∀ c, o.op ≠ .defer c := by
 intro c hc
 unfold tameOps at h
 obtain ⟨hi, e⟩ := Array.getElem?_eq_some_iff.1 ho
 have := (Array.all_eq_true.1 h) i hi
 rw [e, hc] at this
 simp at this
section
variable {l n : Nat} {P : Program} {ops : Array Oper} {Q : Exit → Act → World → Prop} {md : Region.Mode}
theorem rows_in {row : String} {args : Array Value} {w : World} {R : Value → World → Prop} (h : Rows P row args w R) : RowsIn (Fence.wide.inRound l) n P row args w R :=
 fun c cs _ => let ⟨v, w', r, s⟩ := h c cs; ⟨v, w', r, stepsIn_wide.2 s⟩
theorem oper_in {o : Oper} {a : Act} {w : World} {K : Act → World → Prop} (hd : ∀ c, o.op ≠ .defer c) (h : Oper.wp P o a w K Q) : Oper.wpIn (Fence.wide.inRound l) n P o a w K Q := by
 unfold Oper.wpIn
 refine ⟨fun _ _ => trivial, ?_⟩
 rw [Oper.semAt_eq _ _ _ hd]
 unfold Oper.wp at h
 generalize (execOp a.eval o).run P w = r at *
 cases r with
 | ok x w' =>
  cases x with
  | value v => exact h
  | skip => exact h
  | defer d => exact h
  | enter f args => exact ⟨fun h => (by cases h), calls_in l (Calls.mono h fun e w'' he => by cases e <;> exact he)⟩
  | row row args => exact ⟨fun h => (by cases h), rows_in h⟩
  | _ => exact h.elim
 | halt x w' => cases x <;> exact h
theorem op_in {i : Nat} {a : Act} {w : World} {K : Act → World → Prop} (ht : tameOps ops = true) (hQ : ¬ LetsOut Q) (h : wpOp P ops Q i K a w) : wpOpIn (Fence.wide.inRound l) n P ops Q i K a w := by
 unfold wpOpIn
 unfold wpOp at h
 cases ho : ops[i]? with
 | none => simp only [ho] at h; exact h
 | some o =>
  simp only [ho] at h
  split at h
  ·
   rename_i hw
   simp only [hw, if_true]
   exact oper_in (tame_at ht ho) (h.resolve_right (fun hh => hQ hh.2))
  ·
   rename_i hw
   simp only [hw, Bool.false_eq_true, if_false]
   exact ⟨fun _ _ => trivial, h⟩
theorem any_in (ht : tameOps ops = true) (hQ : ¬ LetsOut Q) : ∀ (fuel : Nat) (listed : Array Bool) (a : Act) (w : World), wpAny P md ops Q fuel listed a w → wpAnyIn (Fence.wide.inRound l) n P md ops Q fuel listed a w
 | 0, _, _, _, h => h
 | fuel + 1, _, _, _, h => ⟨h.1, fun i hi => wpOpIn_mono (fun a' w' h' => any_in ht hQ fuel _ a' w' h') (op_in ht hQ (h.2 i hi))⟩
/-- A region that draws its order, within a round, held by a condition on the world. -/
theorem region_in {id : Nat} {a : Act} {w : World} (S : World → Prop) (hm : P.follows .mixedOrders = true) (ht : tameOps ops = true) (hQ : ¬ LetsOut Q)
  (h : wpAnyH P .any ops Q S ops.size (Array.replicate ops.size false) a w.drew) : (Code.region id ops true).wpIn (Fence.wide.inRound l) n P Q a w :=
 wpIn_region_any hm (any_in ht hQ _ _ _ _ (wpAny_of_held _ _ _ _ h))
end
theorem Row.kept {w w' : World} {row : Option Nat} {b : Nat} {cs : List Value} (h : Row w b cs) (hg : w.grownBy w' row) (hr : ∀ r, row = some r → ∃ o : Obj, w.heap[r]? = some o ∧ o.isCells = false) : Row w' b cs := by
 refine h.of_block (hg.block b h.lt (fun e => ?_))
 obtain ⟨T, hT⟩ := h
 obtain ⟨o, ho, hc⟩ := hr b e.symm
 rw [hT] at ho
 cases ho
 simp [Obj.isCells] at hc
theorem OwnV.kept {w w' : World} {row : Option Nat} {base : Nat} {v : Value} {zs : List Int} (h : OwnV w base v zs) (hg : w.grownBy w' row) (hr : ∀ r, row = some r → ∃ o : Obj, w.heap[r]? = some o ∧ o.isCells = false) : OwnV w' base v zs := by
 refine World.ownsRow.kept h hg ?_
 rcases h.2 with ⟨rfl, _⟩ | ⟨g, cap, cur, rfl, _, hgb, _⟩
 ·
  exact .inl rfl
 ·
  refine .inr fun e => ?_
  obtain ⟨o, ho, hc⟩ := hr g (by simpa [Value.ownBlock] using e.symm)
  rw [hgb] at ho
  cases ho
  simp [Obj.isCells] at hc
/-- Whatever block of cells is not the body's own lies as it lay; and of the blocks that lay, none has become its own. -/
def KeepsO (own : World → Nat → Prop) (A B : World) : Prop :=
 A.heap.size ≤ B.heap.size ∧ (∀ k cs T fr, A.heap[k]? = some (.cells cs T fr) → ¬ own A k → B.heap[k]? = A.heap[k]?) ∧ ∀ k, k < A.heap.size → own B k → own A k
theorem KeepsO.trans {own : World → Nat → Prop} {A B C : World} (h : KeepsO own A B) (k : KeepsO own B C) : KeepsO own A C :=
 ⟨Nat.le_trans h.1 k.1, fun i cs T fr hi hn => by
  have hlt := (Array.getElem?_eq_some_iff.1 hi).1
  have e := h.2.1 i cs T fr hi hn
  exact (k.2.1 i cs T fr (e.trans hi) (fun ho => hn (h.2.2 i hlt ho))).trans e, fun i hi ho => h.2.2 i hi (k.2.2 i (Nat.lt_of_lt_of_le hi h.1) ho)⟩
theorem KeepsO.putObj {own : World → Nat → Prop} {W : World} {l : Nat} {o : Obj} (o' : Obj) (hl : W.heap[l]? = some o) (ho : o.isCells = false) (hp : ∀ k, own (W.putObj l o') k → own W k) : KeepsO own W (W.putObj l o') :=
 ⟨(grownBy_putObj' W l o').size, fun i cs T fr hi _ => (grownBy_putObj' W l o').block i (Array.getElem?_eq_some_iff.1 hi).1 (fun e => by
  have hil : l = i := by cases e; rfl
  rw [hil, hi] at hl
  cases hl
  simp [Obj.isCells] at ho), fun k _ h => hp k h⟩
theorem Row.keepsO {own : World → Nat → Prop} {A B : World} {b : Nat} {cs : List Value} (h : Row A b cs) (k : KeepsO own A B) (hn : ¬ own A b) : Row B b cs := by
 obtain ⟨T, hT⟩ := h
 exact ⟨T, (k.2.1 b _ _ _ hT hn).trans hT⟩
theorem SlI.keepsO {own : World → Nat → Prop} {A B : World} {a : Option Addr} {n : Nat} {zs : List Int} (h : SlI A a n zs) (k : KeepsO own A B) (hn : ∀ b o, a = some ⟨b, o, none⟩ → ¬ own A b) : SlI B a n zs := by
 refine ⟨h.1, fun i hi => ?_⟩
 obtain ⟨b, off, ha, hc⟩ := h.2 i hi
 refine ⟨b, off, ha, ?_⟩
 have hb := hn b off ha
 cases hbk : A.heap[b]? with
 | none => simp [World.cell?, hbk] at hc
 | some o =>
  cases o with
  | cells cs T fr =>
   have e := k.2.1 b cs T fr hbk hb
   rw [← hc]; simp only [World.cell?]; rw [e]
  | _ => simp [World.cell?, hbk] at hc
end Go.Proofs.YtlmajlfhjbhdpaaGreat
