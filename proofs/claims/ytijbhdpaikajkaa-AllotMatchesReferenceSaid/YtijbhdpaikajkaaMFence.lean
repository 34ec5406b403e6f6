/-
  Texts built as one: XFence, XHeldJ, XHeldQ, XCh.
-/
import Derived.Test.YtijbhdpaikajkaaMBase
import Derived.RangeFuncNested
import Derived.RangeFuncBound
import Derived.RangeFuncCalls
import Derived.RangeFuncLeaves
import Derived.Shelf.Abstract
import Derived.Shelf.RegionOpen
import Derived.OwnWalkIn
import Derived.TacticsInMore
import Derived.LoopNIn
import Derived.LoopIn
import Derived.OrdersIn
import Derived.OrdersHeld
import Derived.Deep.AppendLies
namespace Go.Proofs.Ytijbhdpaikajkaa

section
set_option linter.unusedSimpArgs false
set_option linter.unusedVariables false
open Go.RowKit

theorem calls_in {n : Nat} {P : Program} {f : FuncId} {args : Array Value} {w : World} {R : Ending → World → Prop} (l : Nat) (h : Calls P f args w R) : CallsIn (Fence.wide.inRound l) n P f args w R :=
  CallsIn.inRound l (callsIn_wide.2 h)
theorem calls_of_wp_marks {P : Program} {f : FuncId} {fn : Func} {c : Code} {args : Array Value} {w : World} {R : Ending → World → Prop} (hf : P.funcs[f]? = some fn) (hb : fn.body = some c)
    (h : c.wp P (bodyPostM Fence.wide 6 P fn R) { tmps := args ++ Array.replicate (fn.ntmps - args.size) undef, defers := [] } w) : Calls P f args w R :=
  (callsIn_wide (n := 6)).1 (callsIn_of_wp_marks hf hb trivial (wpIn_wide.2 h) rfl)

/-- No operation is a 'defer' statement, and none calls a row. -/
def tameOps (ops : Array Oper) : Bool := ops.all fun o => match o.op with | .defer _ => false | _ => true
theorem tame_at {ops : Array Oper} (h : tameOps ops = true) {i : Nat} {o : Oper} (ho : ops[i]? = some o) : ∀ c, o.op ≠ .defer c := by
  intro c hc
  unfold tameOps at h
  obtain ⟨hi, e⟩ := Array.getElem?_eq_some_iff.1 ho
  have := (Array.all_eq_true.1 h) i hi
  rw [e, hc] at this
  simp at this

section
variable {l n : Nat} {P : Program} {ops : Array Oper} {Q : Exit → Act → World → Prop} {md : Region.Mode}
theorem rows_in {row : String} {args : Array Value} {w : World} {R : Value → World → Prop} (h : Rows P row args w R) : RowsIn (Fence.wide.inRound l) n P row args w R :=
  fun c cs _ => let ⟨v, w', r, s⟩ := h c cs; ⟨v, w', r, stepsIn_wide.2 s⟩
theorem oper_in {o : Oper} {a : Act} {w : World} {K : Act → World → Prop} (hd : ∀ c, o.op ≠ .defer c) (h : Oper.wp P o a w K Q) : Oper.wpIn (Fence.wide.inRound l) n P o a w K Q := by
  unfold Oper.wpIn
  refine ⟨fun _ _ => trivial, ?_⟩
  rw [Oper.semAt_eq _ _ _ hd]
  unfold Oper.wp at h
  generalize (execOp a.eval o).run P w = r at *
  cases r with
  | ok x w' =>
    cases x with
    | value v => exact h
    | skip => exact h
    | defer d => exact h
    | enter f args => exact ⟨fun h => (by cases h), calls_in l (Calls.mono h fun e w'' he => by cases e <;> exact he)⟩
    | row row args => exact ⟨fun h => (by cases h), rows_in h⟩
    | _ => exact h.elim
  | halt x w' => cases x <;> exact h
theorem op_in {i : Nat} {a : Act} {w : World} {K : Act → World → Prop} (ht : tameOps ops = true) (hQ : ¬ LetsOut Q) (h : wpOp P ops Q i K a w) : wpOpIn (Fence.wide.inRound l) n P ops Q i K a w := by
  unfold wpOpIn
  unfold wpOp at h
  cases ho : ops[i]? with
  | none => simp only [ho] at h; exact h
  | some o =>
    simp only [ho] at h
    split at h
    · rename_i hw
      simp only [hw, if_true]
      exact oper_in (tame_at ht ho) (h.resolve_right (fun hh => hQ hh.2))
    · rename_i hw
      simp only [hw, Bool.false_eq_true, if_false]
      exact ⟨fun _ _ => trivial, h⟩
theorem any_in (ht : tameOps ops = true) (hQ : ¬ LetsOut Q) : ∀ (fuel : Nat) (listed : Array Bool) (a : Act) (w : World), wpAny P md ops Q fuel listed a w → wpAnyIn (Fence.wide.inRound l) n P md ops Q fuel listed a w
  | 0, _, _, _, h => h
  | fuel + 1, _, _, _, h => ⟨h.1, fun i hi => wpOpIn_mono (fun a' w' h' => any_in ht hQ fuel _ a' w' h') (op_in ht hQ (h.2 i hi))⟩
/-- A region that draws its order, within a round, held by a condition on the world. -/
theorem region_in {id : Nat} {a : Act} {w : World} (S : World → Prop) (hm : P.follows .mixedOrders = true) (ht : tameOps ops = true) (hQ : ¬ LetsOut Q)
    (h : wpAnyH P .any ops Q S ops.size (Array.replicate ops.size false) a w.drew) : (Code.region id ops true).wpIn (Fence.wide.inRound l) n P Q a w :=
  wpIn_region_any hm (any_in ht hQ _ _ _ _ (wpAny_of_held _ _ _ _ h))
end

theorem Row.kept {w w' : World} {row : Option Nat} {b : Nat} {cs : List Value} (h : Row w b cs) (hg : w.grownBy w' row) (hr : ∀ r, row = some r → ∃ o : Obj, w.heap[r]? = some o ∧ o.isCells = false) : Row w' b cs := by
  refine h.of_block (hg.block b h.lt (fun e => ?_))
  obtain ⟨T, hT⟩ := h
  obtain ⟨o, ho, hc⟩ := hr b e.symm
  rw [hT] at ho
  cases ho
  simp [Obj.isCells] at hc
theorem OwnV.kept {w w' : World} {row : Option Nat} {base : Nat} {v : Value} {zs : List Int} (h : OwnV w base v zs) (hg : w.grownBy w' row) (hr : ∀ r, row = some r → ∃ o : Obj, w.heap[r]? = some o ∧ o.isCells = false) : OwnV w' base v zs := by
  refine World.ownsRow.kept h hg ?_
  rcases h.2 with ⟨rfl, _⟩ | ⟨g, cap, cur, rfl, _, hgb, _⟩
  · exact .inl rfl
  · refine .inr fun e => ?_
    obtain ⟨o, ho, hc⟩ := hr g (by simpa [Value.ownBlock] using e.symm)
    rw [hgb] at ho
    cases ho
    simp [Obj.isCells] at hc

/-- Whatever block of cells is not the body's own lies as it lay; and of the blocks that lay, none has become its own. -/
def KeepsO (own : World → Nat → Prop) (A B : World) : Prop :=
  A.heap.size ≤ B.heap.size ∧ (∀ k cs T fr, A.heap[k]? = some (.cells cs T fr) → ¬ own A k → B.heap[k]? = A.heap[k]?) ∧ ∀ k, k < A.heap.size → own B k → own A k
theorem KeepsO.trans {own : World → Nat → Prop} {A B C : World} (h : KeepsO own A B) (k : KeepsO own B C) : KeepsO own A C :=
  ⟨Nat.le_trans h.1 k.1, fun i cs T fr hi hn => by
    have hlt := (Array.getElem?_eq_some_iff.1 hi).1
    have e := h.2.1 i cs T fr hi hn
    exact (k.2.1 i cs T fr (e.trans hi) (fun ho => hn (h.2.2 i hlt ho))).trans e, fun i hi ho => h.2.2 i hi (k.2.2 i (Nat.lt_of_lt_of_le hi h.1) ho)⟩
theorem KeepsO.putObj {own : World → Nat → Prop} {W : World} {l : Nat} {o : Obj} (o' : Obj) (hl : W.heap[l]? = some o) (ho : o.isCells = false) (hp : ∀ k, own (W.putObj l o') k → own W k) : KeepsO own W (W.putObj l o') :=
  ⟨(grownBy_putObj' W l o').size, fun i cs T fr hi _ => (grownBy_putObj' W l o').block i (Array.getElem?_eq_some_iff.1 hi).1 (fun e => by
    have hil : l = i := by cases e; rfl
    rw [hil, hi] at hl
    cases hl
    simp [Obj.isCells] at ho), fun k _ h => hp k h⟩
theorem Row.keepsO {own : World → Nat → Prop} {A B : World} {b : Nat} {cs : List Value} (h : Row A b cs) (k : KeepsO own A B) (hn : ¬ own A b) : Row B b cs := by
  obtain ⟨T, hT⟩ := h
  exact ⟨T, (k.2.1 b _ _ _ hT hn).trans hT⟩
theorem SlI.keepsO {own : World → Nat → Prop} {A B : World} {a : Option Addr} {n : Nat} {zs : List Int} (h : SlI A a n zs) (k : KeepsO own A B) (hn : ∀ b o, a = some ⟨b, o, none⟩ → ¬ own A b) : SlI B a n zs := by
  refine ⟨h.1, fun i hi => ?_⟩
  obtain ⟨b, off, ha, hc⟩ := h.2 i hi
  refine ⟨b, off, ha, ?_⟩
  have hb := hn b off ha
  cases hbk : A.heap[b]? with
  | none => simp [World.cell?, hbk] at hc
  | some o =>
    cases o with
    | cells cs T fr =>
      have e := k.2.1 b cs T fr hbk hb
      rw [← hc]; simp only [World.cell?]; rw [e]
    | _ => simp [World.cell?, hbk] at hc

end

section
set_option linter.unusedSimpArgs false
set_option linter.unusedVariables false
open Go.RowKit

section
variable {P : Program} {ops : Array Oper} {Q : Exit → Act → World → Prop} {md : Region.Mode} {S : World → Prop} {J : Nat → Bool}

/-- Whatever order is drawn from here on; behind each operation of J the condition S holds. -/
def AnyJ (P : Program) (md : Region.Mode) (ops : Array Oper) (Q : Exit → Act → World → Prop) (S : World → Prop) (J : Nat → Bool) : Nat → Array Bool → Act → World → Prop
  | 0, ls, a, w => Region.ready md ops ls = [] ∧ Q .normal a w
  | f + 1, ls, a, w => (Region.ready md ops ls = [] → Q .normal a w) ∧
      ∀ i ∈ Region.ready md ops ls, wpOp P ops Q i (fun b v => (J i = true → S v) ∧ AnyJ P md ops Q S J f (ls.setIfInBounds i true) b v) a w

theorem AnyJ.any : ∀ (f : Nat) (ls : Array Bool) (a : Act) (w : World), AnyJ P md ops Q S J f ls a w → wpAny P md ops Q f ls a w
  | 0, _, _, _, h => h
  | f + 1, _, _, _, h => ⟨h.1, fun i hi => wpOp_mono (fun b v h' => AnyJ.any f _ b v h'.2) (h.2 i hi)⟩

/-- Each operation that is not listed yet is in J, or is i, or waits for i. -/
def waitsB (md : Region.Mode) (ops : Array Oper) (ls : Array Bool) (i : Nat) (J : Nat → Bool) : Bool :=
  (List.range ops.size).all fun j => match ops[j]? with
    | none => true
    | some o => ls.getD j true || J j || (j == i || o.after.any fun e => Region.binds md e && e.on == i)
theorem waitsB_spec {i : Nat} {ls : Array Bool} (h : waitsB md ops ls i J = true) (j : Nat) (o : Oper) (ho : ops[j]? = some o) (hj : j ≠ i) (hu : ls.getD j true = false) (hn : ∀ e ∈ o.after, Region.binds md e = true → e.on ≠ i) : J j = true := by
  have hlt : j < ops.size := (Array.getElem?_eq_some_iff.1 ho).1
  have := (List.all_eq_true.1 h) j (List.mem_range.2 hlt)
  rw [ho] at this
  simp only [hu, Bool.false_or, Bool.or_eq_true, beq_iff_eq] at this
  rcases this with h1 | h1 | h1
  · exact h1
  · exact absurd h1 hj
  · obtain ⟨e, he, hb⟩ := Array.any_eq_true'.1 h1
    simp only [Bool.and_eq_true, beq_iff_eq] at hb
    exact absurd hb.2 (hn e he hb.1)

theorem AnyJ.first {i : Nat} {o : Oper} {v : Value} (hi : ops[i]? = some o) (hsel : ∀ (j : Nat) (o : Oper) cs b, ops[j]? = some o → o.op ≠ .select cs b) (hQ : ∀ c a w, Q (.panic c) (a.put o.dst v) w → Q (.panic c) a w) :
    ∀ (f : Nat) (ls : Array Bool) (a : Act) (w : World),
      (∀ j oj, ops[j]? = some oj → j ≠ i → ls.getD j true = false → (∀ e ∈ oj.after, Region.binds md e = true → e.on ≠ i) → o.apart ops oj = true) →
      (∀ j oj, ops[j]? = some oj → j ≠ i → ls.getD j true = false → (∀ e ∈ oj.after, Region.binds md e = true → e.on ≠ i) → J j = true) →
      i ∈ Region.ready md ops ls → YieldsIf P ops S o v a → S w → AnyJ P md ops Q S J f (ls.setIfInBounds i true) (a.put o.dst v) w → AnyJ P md ops Q S J (f + 1) ls a w
  | 0, ls, a, w, _, _, hr, hy, hS, H => by
    refine ⟨fun e => absurd hr (by rw [e]; exact List.not_mem_nil), fun j hj => ?_⟩
    rcases Nat.decEq j i with hne | he
    · have := ready_mono hj hne
      rw [H.1] at this
      exact absurd this List.not_mem_nil
    · subst he
      exact hy.wpOp hi hS ⟨fun _ => hS, H⟩
  | f + 1, ls, a, w, hfr, hJ, hr, hy, hS, H => by
    refine ⟨fun e => absurd hr (by rw [e]; exact List.not_mem_nil), fun j hj => ?_⟩
    rcases Nat.decEq j i with hne | he
    · obtain ⟨hun, oj, hoj, hpre⟩ := mem_ready.1 hj
      have hiun := (mem_ready.1 hr).1
      have hno : ∀ e ∈ oj.after, Region.binds md e = true → e.on ≠ i := by
        intro e he hb hei
        have g := hpre e he hb
        rw [hei] at g
        by_cases hlt : i < ls.size
        · simp [hlt] at hiun g
          rw [hiun] at g
          exact Bool.noConfusion g
        · simp [Array.getElem?_eq_none (by omega : ls.size ≤ i)] at g
      have hs := hJ j oj hoj hne hun hno
      have hput := wpOp_putIf hoj (hfr j oj hoj hne hun hno) (fun cs b => hsel i o cs b hi) (fun cs b => hsel j oj cs b hoj) hQ hy (H.2 j (ready_mono hj hne))
      refine wpOp_mono (fun b u h3 => ⟨h3.2.1, AnyJ.first hi hsel hQ f _ b u ?_ ?_ (ready_mono hr (Ne.symm hne)) h3.1 (h3.2.1 hs) (by rw [Array.setIfInBounds_comm _ _ hne]; exact h3.2.2)⟩) hput
      · intro k ok hk hki hku hkn
        refine hfr k ok hk hki ?_ hkn
        rcases Nat.decEq j k with hjk | hjk
        · rwa [getD_set_ne true hjk] at hku
        · subst hjk; exact hun
      · intro k ok hk hki hku hkn
        refine hJ k ok hk hki ?_ hkn
        rcases Nat.decEq j k with hjk | hjk
        · rwa [getD_set_ne true hjk] at hku
        · subst hjk; exact hun
    · subst he
      exact hy.wpOp hi hS ⟨fun _ => hS, H⟩

theorem AnyJ.take {i : Nat} {o : Oper} {v : Value} {f : Nat} {ls : Array Bool} {a : Act} {w : World} (hi : ops[i]? = some o) (hs : Region.noSelect ops = true) (hf : Region.free md ops ls i = true) (hr : (Region.ready md ops ls).contains i = true)
    (hJ : waitsB md ops ls i J = true) (hQ : ∀ c a w, Q (.panic c) (a.put o.dst v) w → Q (.panic c) a w) (hy : YieldsIf P ops S o v a) (hS : S w)
    (h : AnyJ P md ops Q S J f (ls.setIfInBounds i true) (a.put o.dst v) w) : AnyJ P md ops Q S J (f + 1) ls a w :=
  AnyJ.first hi (Region.noSelect_spec hs) hQ f ls a w (Region.free_spec hi hf) (waitsB_spec hJ) (by simpa using hr) hy hS h
/-- What yields in whatever world is taken first without more. -/
theorem AnyJ.firstY {i : Nat} {o : Oper} {v : Value} (hi : ops[i]? = some o) (hsel : ∀ (j : Nat) (o : Oper) cs b, ops[j]? = some o → o.op ≠ .select cs b) (hQ : ∀ c a w, Q (.panic c) (a.put o.dst v) w → Q (.panic c) a w) :
    ∀ (f : Nat) (ls : Array Bool) (a : Act) (w : World),
      (∀ j oj, ops[j]? = some oj → j ≠ i → ls.getD j true = false → (∀ e ∈ oj.after, Region.binds md e = true → e.on ≠ i) → o.apart ops oj = true) →
      i ∈ Region.ready md ops ls → Yields P ops o v a → (J i = true → S w) → J i = false → AnyJ P md ops Q S J f (ls.setIfInBounds i true) (a.put o.dst v) w → AnyJ P md ops Q S J (f + 1) ls a w
  | 0, ls, a, w, _, hr, hy, hS, hji, H => by
    refine ⟨fun e => absurd hr (by rw [e]; exact List.not_mem_nil), fun j hj => ?_⟩
    rcases Nat.decEq j i with hne | he
    · have := ready_mono hj hne
      rw [H.1] at this
      exact absurd this List.not_mem_nil
    · subst he
      exact hy.wpOp hi ⟨hS, H⟩
  | f + 1, ls, a, w, hfr, hr, hy, hS, hji, H => by
    refine ⟨fun e => absurd hr (by rw [e]; exact List.not_mem_nil), fun j hj => ?_⟩
    rcases Nat.decEq j i with hne | he
    · obtain ⟨hun, oj, hoj, hpre⟩ := mem_ready.1 hj
      have hiun := (mem_ready.1 hr).1
      have hno : ∀ e ∈ oj.after, Region.binds md e = true → e.on ≠ i := by
        intro e he hb hei
        have g := hpre e he hb
        rw [hei] at g
        by_cases hlt : i < ls.size
        · simp [hlt] at hiun g
          rw [hiun] at g
          exact Bool.noConfusion g
        · simp [Array.getElem?_eq_none (by omega : ls.size ≤ i)] at g
      have hput := wpOp_put hoj (hfr j oj hoj hne hun hno) (fun cs b => hsel i o cs b hi) (fun cs b => hsel j oj cs b hoj) hQ hy (H.2 j (ready_mono hj hne))
      refine wpOp_mono (fun b u h3 => ⟨h3.2.1, AnyJ.firstY hi hsel hQ f _ b u ?_ (ready_mono hr (Ne.symm hne)) h3.1 (fun h => by rw [hji] at h; cases h) hji (by rw [Array.setIfInBounds_comm _ _ hne]; exact h3.2.2)⟩) hput
      intro k ok hk hki hku hkn
      refine hfr k ok hk hki ?_ hkn
      rcases Nat.decEq j k with hjk | hjk
      · rwa [getD_set_ne true hjk] at hku
      · subst hjk; exact hun
    · subst he
      exact hy.wpOp hi ⟨hS, H⟩
theorem AnyJ.takeY {i : Nat} {o : Oper} {v : Value} {f : Nat} {ls : Array Bool} {a : Act} {w : World} (hi : ops[i]? = some o) (hs : Region.noSelect ops = true) (hf : Region.free md ops ls i = true) (hr : (Region.ready md ops ls).contains i = true)
    (hJ : J i = false) (hQ : ∀ c a w, Q (.panic c) (a.put o.dst v) w → Q (.panic c) a w) (hy : Yields P ops o v a)
    (h : AnyJ P md ops Q S J f (ls.setIfInBounds i true) (a.put o.dst v) w) : AnyJ P md ops Q S J (f + 1) ls a w :=
  AnyJ.firstY hi (Region.noSelect_spec hs) hQ f ls a w (Region.free_spec hi hf) (by simpa using hr) hy (fun h => by rw [hJ] at h; cases h) hJ h
theorem AnyJ.one {i : Nat} {o : Oper} {f : Nat} {ls : Array Bool} {a : Act} {w : World} (hr : Region.ready md ops ls = [i]) (ho : ops[i]? = some o)
    (h : ∀ K : Act → World → Prop, (∀ b v, (J i = true → S v) → AnyJ P md ops Q S J f (ls.setIfInBounds i true) b v → K b v) → if Region.wanted o (yielded ops a.tmps) = true then Oper.wp P o a w K Q else K (a.put o.dst undef) w) : AnyJ P md ops Q S J (f + 1) ls a w :=
  ⟨fun e => absurd e (by rw [hr]; exact List.cons_ne_nil _ _), fun j hj => by
    rw [hr, List.mem_singleton] at hj
    subst hj
    exact wpOp_step ho (fun K hK => h K (fun b v h1 h2 => hK b v ⟨h1, h2⟩))⟩
theorem AnyJ.two {i j : Nat} {o p : Oper} {f : Nat} {ls : Array Bool} {a : Act} {w : World} (hr : Region.ready md ops ls = [i, j]) (ho : ops[i]? = some o) (hp : ops[j]? = some p)
    (h : ∀ K : Act → World → Prop, (∀ b v, (J i = true → S v) → AnyJ P md ops Q S J f (ls.setIfInBounds i true) b v → K b v) → if Region.wanted o (yielded ops a.tmps) = true then Oper.wp P o a w K Q else K (a.put o.dst undef) w)
    (k : ∀ K : Act → World → Prop, (∀ b v, (J j = true → S v) → AnyJ P md ops Q S J f (ls.setIfInBounds j true) b v → K b v) → if Region.wanted p (yielded ops a.tmps) = true then Oper.wp P p a w K Q else K (a.put p.dst undef) w) : AnyJ P md ops Q S J (f + 1) ls a w :=
  ⟨fun e => absurd e (by rw [hr]; exact List.cons_ne_nil _ _), fun q hq => by
    rw [hr] at hq
    rcases List.mem_cons.1 hq with e | e
    · subst e; exact wpOp_step ho (fun K hK => h K (fun b v h1 h2 => hK b v ⟨h1, h2⟩))
    · rw [List.mem_singleton] at e
      subst e; exact wpOp_step hp (fun K hK => k K (fun b v h1 h2 => hK b v ⟨h1, h2⟩))⟩
theorem AnyJ.done {ls : Array Bool} {a : Act} {w : World} (hr : Region.ready md ops ls = []) (h : Q .normal a w) : ∀ f, AnyJ P md ops Q S J f ls a w
  | 0 => ⟨hr, h⟩
  | _ + 1 => ⟨fun _ => h, fun i hi => by rw [hr] at hi; exact absurd hi List.not_mem_nil⟩
/-- The beginning, within a round. -/
theorem AnyJ.begin {l n id : Nat} {a : Act} {w : World} (S : World → Prop) (J : Nat → Bool) (hm : P.follows .mixedOrders = true) (ht : tameOps ops = true) (hQ : ¬ LetsOut Q)
    (h : AnyJ P .any ops Q S J ops.size (Array.replicate ops.size false) a w.drew) : (Code.region id ops true).wpIn (Fence.wide.inRound l) n P Q a w :=
  wpIn_region_any hm (any_in ht hQ _ _ _ _ (AnyJ.any _ _ _ _ h))
end

end

section
set_option linter.unusedSimpArgs false
set_option linter.unusedVariables false
open Go.RowKit

theorem AnyJ.beginP {P : Program} {ops : Array Oper} {Q : Exit → Act → World → Prop} {id : Nat} {a : Act} {w : World} (S : World → Prop) (J : Nat → Bool) (hm : P.follows .mixedOrders = true) (hS : S w.drew)
    (h : S w.drew → AnyJ P .any ops Q S J ops.size (Array.replicate ops.size false) a w.drew) : (Code.region id ops true).wp P Q a w :=
  wp_region_any hm (AnyJ.any _ _ _ _ (h hS))

/-- What yields is taken first; its slot told. -/
theorem AnyJ.takeD {P : Program} {ops : Array Oper} {Q : Exit → Act → World → Prop} {md : Region.Mode} {S : World → Prop} {J : Nat → Bool} {i : Nat} {o : Oper} {d : Option Tmp} {v : Value} {f : Nat} {ls : Array Bool} {a : Act} {w : World} (hi : ops[i]? = some o) (hd : o.dst = d) (hs : Region.noSelect ops = true) (hf : Region.free md ops ls i = true) (hr : (Region.ready md ops ls).contains i = true)
    (hJ : waitsB md ops ls i J = true) (hQ : ∀ c a w, Q (.panic c) (a.put d v) w → Q (.panic c) a w) (hy : YieldsIf P ops S o v a) (hS : S w)
    (h : AnyJ P md ops Q S J f (ls.setIfInBounds i true) (a.put d v) w) : AnyJ P md ops Q S J (f + 1) ls a w := by
  subst hd
  exact AnyJ.take hi hs hf hr hJ hQ hy hS h

end

section
set_option linter.unusedSimpArgs false
set_option linter.unusedVariables false
open Go.RowKit

/-- Only blocks of o turn (and new blocks may be there). -/
def Ch (o : Nat → Prop) (A B : World) : Prop := B.os = A.os ∧ B.tape = A.tape ∧ B.output = A.output ∧ A.heap.size ≤ B.heap.size ∧ ∀ k, k < A.heap.size → ¬ o k → B.heap[k]? = A.heap[k]?
theorem Ch.refl (o : Nat → Prop) (A : World) : Ch o A A := ⟨rfl, rfl, rfl, Nat.le_refl _, fun _ _ _ => rfl⟩
theorem Ch.trans {o : Nat → Prop} {A B C : World} (h : Ch o A B) (k : Ch o B C) : Ch o A C :=
  ⟨k.1.trans h.1, k.2.1.trans h.2.1, k.2.2.1.trans h.2.2.1, Nat.le_trans h.2.2.2.1 k.2.2.2.1, fun i hi ho => (k.2.2.2.2 i (Nat.lt_of_lt_of_le hi h.2.2.2.1) ho).trans (h.2.2.2.2 i hi ho)⟩
theorem Ch.mono {o p : Nat → Prop} {A B : World} (h : Ch o A B) (hp : ∀ k, k < A.heap.size → o k → p k) : Ch p A B := ⟨h.1, h.2.1, h.2.2.1, h.2.2.2.1, fun k hk hn => h.2.2.2.2 k hk (fun ho => hn (hp k hk ho))⟩
theorem Ch.size {o : Nat → Prop} {A B : World} (h : Ch o A B) : A.heap.size ≤ B.heap.size := h.2.2.2.1
theorem Ch.of_grown {o : Nat → Prop} {A B : World} {row : Option Nat} (h : A.grownBy B row) (hr : ∀ k, row = some k → o k) : Ch o A B :=
  ⟨h.os, h.tape, h.output, h.size, fun k hk hn => h.block k hk (fun e => hn (hr k e.symm))⟩
theorem Ch.alloc {o : Nat → Prop} {A W : World} (h : Ch o A W) (x : Obj) : Ch o A (W.alloc x) := h.trans ⟨rfl, rfl, rfl, by simp, fun k hk _ => Below.heap_alloc _ _ _ hk⟩
theorem Ch.drew {o : Nat → Prop} {A W : World} (h : Ch o A W) : Ch o A W.drew := h.trans ⟨rfl, rfl, rfl, Nat.le_refl _, fun _ _ _ => rfl⟩
theorem Ch.setCell {o : Nat → Prop} {A W : World} (h : Ch o A W) {p : Addr} (hp : o p.block) (v : Value) : Ch o A (W.setCell p v) :=
  h.trans ⟨rfl, rfl, rfl, by simp [World.setCell], fun k hk hn => Below.heap_setCell _ _ _ _ (fun e => hn (by rw [e]; exact hp))⟩
theorem Ch.below {o : Nat → Prop} {A B w0 : World} {b : Nat} (h : Ch o A B) (hb : Below b w0 A) (ho : ∀ k, o k → b ≤ k) (hs : b ≤ A.heap.size) : Below b w0 B :=
  hb.trans ⟨h.1, h.2.1, h.2.2.1, h.2.2.2.1, fun k hk => h.2.2.2.2 k (Nat.lt_of_lt_of_le hk hs) (fun hh => by have := ho k hh; omega)⟩
theorem Row.ch {o : Nat → Prop} {A B : World} {b : Nat} {cs : List Value} (h : Row A b cs) (k : Ch o A B) (hn : ¬ o b) : Row B b cs := h.of_block (k.2.2.2.2 b h.lt hn)
theorem OwnV.ch {o : Nat → Prop} {A B : World} {base : Nat} {v : Value} {zs : List Int} (h : OwnV A base v zs) (k : Ch o A B) (hn : ∀ g, v.ownBlock = some g → ¬ o g) : OwnV B base v zs := by
  refine ⟨h.1, ?_⟩
  rcases h.2 with h2 | ⟨g, cap, cur, rfl, e2, e3, e4⟩
  · exact Or.inl h2
  · exact Or.inr ⟨g, cap, cur, rfl, e2, (k.2.2.2.2 g (Array.getElem?_eq_some_iff.1 e3).1 (hn g rfl)).trans e3, e4⟩
theorem OwnV.lt {w : World} {base : Nat} {v : Value} {zs : List Int} (h : OwnV w base v zs) {g : Nat} (hg : v.ownBlock = some g) : base ≤ g ∧ g < w.heap.size := World.ownsRow.lt h g hg
theorem Ch.others {o : Nat → Prop} {A B : World} (h : Ch o A B) (ho : ∀ k, o k → ∃ cs T fr, A.heap[k]? = some (.cells cs T fr)) : KeepsOthers A B :=
  ⟨h.2.2.2.1, fun k x hk hc => (h.2.2.2.2 k (Array.getElem?_eq_some_iff.1 hk).1 (fun hh => by
    obtain ⟨cs, T, fr, e⟩ := ho k hh
    rw [e] at hk
    cases hk
    simp [Obj.isCells] at hc)).trans hk⟩
theorem OwnV.isCells {w : World} {base : Nat} {v : Value} {zs : List Int} (h : OwnV w base v zs) {g : Nat} (hg : v.ownBlock = some g) : ∃ cs T fr, w.heap[g]? = some (.cells cs T fr) := by
  rcases h.2 with ⟨rfl, _⟩ | ⟨g', cap, cur, rfl, e2, e3, e4⟩
  · simp [Value.ownBlock] at hg
  · simp [Value.ownBlock] at hg
    subst hg
    exact ⟨_, _, _, e3⟩

/-- 'append' of one int to a slice of the call's own, as a step of a region that draws; and where the new slice lies. -/
theorem step_app_int {ops : Array Oper} {o : Oper} {a : Act} {w : World} {K : Act → World → Prop} {Q : Exit → Act → World → Prop} {E : Prop}
    (hg : o.guard = none) (s x : Operand) (t : TypeId) (hop : o.op = Op.call { callee := Callee.builtin Builtin.append, args := #[s, x], argTypes := #[t, t] }) (ht : Try.prog.underlying t = some (.slice 3))
    (base : Nat) (v : Value) (zs : List Int) (hs : a.eval s = v) (hown : OwnV w base v zs) (g c : Nat) (z : Int) (hx : a.eval x = .slice (some ⟨g, 0, none⟩) 1 c) (hc : w.cell? ⟨g, 0, none⟩ = some (.int .i64 z)) (hn : zs.length ≤ 1000000000000) (hbase : base ≤ w.heap.size)
    (hK : ∀ gg cap w', OwnV w' base (.slice (some ⟨gg, 0, none⟩) (zs.length + 1) cap) (zs ++ [z]) → w.grownBy w' v.ownBlock → (v.ownBlock = some gg ∨ gg = w.heap.size) → K (a.put o.dst (.slice (some ⟨gg, 0, none⟩) (zs.length + 1) cap)) w') :
    if Region.wanted o (yielded ops a.tmps) = true then Oper.wp Try.prog o a w K Q else E := by
  obtain ⟨i0, hi, hz0, hz1, hz2⟩ := info_parts info_int
  refine step_append_lies w hg s x t hop base 3 i0 (.int .i64 0) 1 8 ht hi hz0 hz1 hz2 rfl (by decide) v zs.length _ hs hown ⟨g, 0, none⟩ 1 c [.int .i64 z] hx rfl ?_ ?_ (by omega) ?_ ?_ hbase _ rfl ?_
  · intro j u hj
    cases j with
    | zero => simp at hj; subst hj; exact hc
    | succ j => simp at hj
  · intro u hu; simp at hu; subst hu; rfl
  · unfold maxLen; omega
  · omega
  · intro gg cap w' h1 h2 h3 _
    exact hK gg cap w' (by unfold OwnV; simpa using h1) h2 h3

end

end Go.Proofs.Ytijbhdpaikajkaa
