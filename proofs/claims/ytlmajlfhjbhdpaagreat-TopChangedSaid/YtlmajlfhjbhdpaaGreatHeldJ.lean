/-
 A region that draws its order and stores into cells that it has loaded: a load is taken first if what may come before it keeps its cell; of the stores, which come later, nothing is asked.
-/
import Derived.Test.YtlmajlfhjbhdpaaGreatFence
namespace Go.Proofs.YtlmajlfhjbhdpaaGreat
set_option linter.unusedSimpArgs false
set_option linter.unusedVariables false
open Go.RowKit
section
variable {P : Program} {ops : Array Oper} {Q : Exit → Act → World → Prop} {md : Region.Mode} {S : World → Prop} {J : Nat → Bool}
/-- Whatever order is drawn from here on; behind each operation of J the condition S holds. -/
def AnyJ (P : Program) (md : Region.Mode) (ops : Array Oper) (Q : Exit → Act → World → Prop) (S : World → Prop) (J : Nat → Bool) : Nat → Array Bool → Act → World → Prop
 | 0, ls, a, w => Region.ready md ops ls = [] ∧ Q .normal a w
 | f + 1, ls, a, w => (Region.ready md ops ls = [] → Q .normal a w) ∧
   ∀ i ∈ Region.ready md ops ls, wpOp P ops Q i (fun b v => (J i = true → S v) ∧ AnyJ P md ops Q S J f (ls.setIfInBounds i true) b v) a w
theorem AnyJ.any : ∀ (f : Nat) (ls : Array Bool) (a : Act) (w : World), AnyJ P md ops Q S J f ls a w → wpAny P md ops Q f ls a w
 | 0, _, _, _, h => h
 | f + 1, _, _, _, h => ⟨h.1, fun i hi => wpOp_mono (fun b v h' => AnyJ.any f _ b v h'.2) (h.2 i hi)⟩
/-- Each operation that is not listed yet is in J, or is i, or waits for i. -/
def waitsB (md : Region.Mode) (ops : Array Oper) (ls : Array Bool) (i : Nat) (J : Nat → Bool) : Bool :=
 (List.range ops.size).all fun j => match ops[j]? with
  | none => true
  | some o => ls.getD j true || J j || (j == i || o.after.any fun e => Region.binds md e && e.on == i)
theorem waitsB_spec {i : Nat} {ls : Array Bool} (h : waitsB md ops ls i J = true) (j : Nat) (o : Oper) (ho : ops[j]? = some o) (hj : j ≠ i) (hu : ls.getD j true = false) (hn : ∀ e ∈ o.after, Region.binds md e = true → e.on ≠ i) : J j = true := by
 have hlt : j < ops.size := (Array.getElem?_eq_some_iff.1 ho).1
 have := (List.all_eq_true.1 h) j (List.mem_range.2 hlt)
 rw [ho] at this
 simp only [hu, Bool.false_or, Bool.or_eq_true, beq_iff_eq] at this
 rcases this with h1 | h1 | h1
 ·
  exact h1
 ·
  exact absurd h1 hj
 ·
  obtain ⟨e, he, hb⟩ := Array.any_eq_true'.1 h1
  simp only [Bool.and_eq_true, beq_iff_eq] at hb
  exact absurd hb.2 (hn e he hb.1)
theorem AnyJ.first {i : Nat} {o : Oper} {v : Value} (hi : ops[i]? = some o) (hsel : ∀ (j : Nat) (o : Oper) cs b, ops[j]? = some o → o.op ≠ .select cs b) (hQ : ∀ c a w, Q (.panic c) (a.put o.dst v) w → Q (.panic c) a w) :
  ∀ (f : Nat) (ls : Array Bool) (a : Act) (w : World),
   (∀ j oj, ops[j]? = some oj → j ≠ i → ls.getD j true = false → (∀ e ∈ oj.after, Region.binds md e = true → e.on ≠ i) → o.apart ops oj = true) →
   (∀ j oj, ops[j]? = some oj → j ≠ i → ls.getD j true = false → (∀ e ∈ oj.after, Region.binds md e = true → e.on ≠ i) → J j = true) →
   i ∈ Region.ready md ops ls → YieldsIf P ops S o v a → S w → AnyJ P md ops Q S J f (ls.setIfInBounds i true) (a.put o.dst v) w → AnyJ P md ops Q S J (f + 1) ls a w
 | 0, ls, a, w, _, _, hr, hy, hS, H => by
  refine ⟨fun e => absurd hr (by rw [e]; exact List.not_mem_nil), fun j hj => ?_⟩
  rcases Nat.decEq j i with hne | he
  ·
   have := ready_mono hj hne
   rw [H.1] at this
   exact absurd this List.not_mem_nil
  ·
   subst he
   exact hy.wpOp hi hS ⟨fun _ => hS, H⟩
 | f + 1, ls, a, w, hfr, hJ, hr, hy, hS, H => by
  refine ⟨fun e => absurd hr (by rw [e]; exact List.not_mem_nil), fun j hj => ?_⟩
  rcases Nat.decEq j i with hne | he
  ·
   obtain ⟨hun, oj, hoj, hpre⟩ := mem_ready.1 hj
   have hiun := (mem_ready.1 hr).1
   have hno : ∀ e ∈ oj.after, Region.binds md e = true → e.on ≠ i := by
    intro e he hb hei
    have g := hpre e he hb
    rw [hei] at g
    by_cases hlt : i < ls.size
    ·
     simp [hlt] at hiun g
     rw [hiun] at g
     exact Bool.noConfusion g
    ·
     simp [Array.getElem?_eq_none (by omega : ls.size ≤ i)] at g
   have hs := hJ j oj hoj hne hun hno
   have hput := wpOp_putIf hoj (hfr j oj hoj hne hun hno) (fun cs b => hsel i o cs b hi) (fun cs b => hsel j oj cs b hoj) hQ hy (H.2 j (ready_mono hj hne))
   refine wpOp_mono (fun b u h3 => ⟨h3.2.1, AnyJ.first hi hsel hQ f _ b u ?_ ?_ (ready_mono hr (Ne.symm hne)) h3.1 (h3.2.1 hs) (by rw [Array.setIfInBounds_comm _ _ hne]; exact h3.2.2)⟩) hput
   ·
    intro k ok hk hki hku hkn
    refine hfr k ok hk hki ?_ hkn
    rcases Nat.decEq j k with hjk | hjk
    ·
     rwa [getD_set_ne true hjk] at hku
    ·
     subst hjk; exact hun
   ·
    intro k ok hk hki hku hkn
    refine hJ k ok hk hki ?_ hkn
    rcases Nat.decEq j k with hjk | hjk
    ·
     rwa [getD_set_ne true hjk] at hku
    ·
     subst hjk; exact hun
  ·
   subst he
   exact hy.wpOp hi hS ⟨fun _ => hS, H⟩
theorem AnyJ.take {i : Nat} {o : Oper} {v : Value} {f : Nat} {ls : Array Bool} {a : Act} {w : World} (hi : ops[i]? = some o) (hs : Region.noSelect ops = true) (hf : Region.free md ops ls i = true) (hr : (Region.ready md ops ls).contains i = true)
  (hJ : waitsB md ops ls i J = true) (hQ : ∀ c a w, Q (.panic c) (a.put o.dst v) w → Q (.panic c) a w) (hy : YieldsIf P ops S o v a) (hS : S w)
  (h : AnyJ P md ops Q S J f (ls.setIfInBounds i true) (a.put o.dst v) w) : AnyJ P md ops Q S J (f + 1) ls a w :=
 AnyJ.first hi (Region.noSelect_spec hs) hQ f ls a w (Region.free_spec hi hf) (waitsB_spec hJ) (by simpa using hr) hy hS h
/-- What yields in whatever world is taken first without more. -/
theorem AnyJ.firstY {i : Nat} {o : Oper} {v : Value} (hi : ops[i]? = some o) (hsel : ∀ (j : Nat) (o : Oper) cs b, ops[j]? = some o → o.op ≠ .select cs b) (hQ : ∀ c a w, Q (.panic c) (a.put o.dst v) w → Q (.panic c) a w) :
  ∀ (f : Nat) (ls : Array Bool) (a : Act) (w : World),
   (∀ j oj, ops[j]? = some oj → j ≠ i → ls.getD j true = false → (∀ e ∈ oj.after, Region.binds md e = true → e.on ≠ i) → o.apart ops oj = true) →
   i ∈ Region.ready md ops ls → Yields P ops o v a → (J i = true → S w) → J i = false → AnyJ P md ops Q S J f (ls.setIfInBounds i true) (a.put o.dst v) w → AnyJ P md ops Q S J (f + 1) ls a w
 | 0, ls, a, w, _, hr, hy, hS, hji, H => by
  refine ⟨fun e => absurd hr (by rw [e]; exact List.not_mem_nil), fun j hj => ?_⟩
  rcases Nat.decEq j i with hne | he
  ·
   have := ready_mono hj hne
   rw [H.1] at this
   exact absurd this List.not_mem_nil
  ·
   subst he
   exact hy.wpOp hi ⟨hS, H⟩
 | f + 1, ls, a, w, hfr, hr, hy, hS, hji, H => by
  refine ⟨fun e => absurd hr (by rw [e]; exact List.not_mem_nil), fun j hj => ?_⟩
  rcases Nat.decEq j i with hne | he
  ·
   obtain ⟨hun, oj, hoj, hpre⟩ := mem_ready.1 hj
   have hiun := (mem_ready.1 hr).1
   have hno : ∀ e ∈ oj.after, Region.binds md e = true → e.on ≠ i := by
    intro e he hb hei
    have g := hpre e he hb
    rw [hei] at g
    by_cases hlt : i < ls.size
    ·
     simp [hlt] at hiun g
     rw [hiun] at g
     exact Bool.noConfusion g
    ·
     simp [Array.getElem?_eq_none (by omega : ls.size ≤ i)] at g
   have hput := wpOp_put hoj (hfr j oj hoj hne hun hno) (fun cs b => hsel i o cs b hi) (fun cs b => hsel j oj cs b hoj) hQ hy (H.2 j (ready_mono hj hne))
   refine wpOp_mono (fun b u h3 => ⟨h3.2.1, AnyJ.firstY hi hsel hQ f _ b u ?_ (ready_mono hr (Ne.symm hne)) h3.1 (fun h => by rw [hji] at h; cases h) hji (by rw [Array.setIfInBounds_comm _ _ hne]; exact h3.2.2)⟩) hput
   intro k ok hk hki hku hkn
   refine hfr k ok hk hki ?_ hkn
   rcases Nat.decEq j k with hjk | hjk
   ·
    rwa [getD_set_ne true hjk] at hku
   ·
    subst hjk; exact hun
  ·
   subst he
   exact hy.wpOp hi ⟨hS, H⟩
theorem AnyJ.takeY {i : Nat} {o : Oper} {v : Value} {f : Nat} {ls : Array Bool} {a : Act} {w : World} (hi : ops[i]? = some o) (hs : Region.noSelect ops = true) (hf : Region.free md ops ls i = true) (hr : (Region.ready md ops ls).contains i = true)
  (hJ : J i = false) (hQ : ∀ c a w, Q (.panic c) (a.put o.dst v) w → Q (.panic c) a w) (hy : Yields P ops o v a)
  (h : AnyJ P md ops Q S J f (ls.setIfInBounds i true) (a.put o.dst v) w) : AnyJ P md ops Q S J (f + 1) ls a w :=
 AnyJ.firstY hi (Region.noSelect_spec hs) hQ f ls a w (Region.free_spec hi hf) (by simpa using hr) hy (fun h => by rw [hJ] at h; cases h) hJ h
theorem AnyJ.one {i : Nat} {o : Oper} {f : Nat} {ls : Array Bool} {a : Act} {w : World} (hr : Region.ready md ops ls = [i]) (ho : ops[i]? = some o)
  (h : ∀ K : Act → World → Prop, (∀ b v, (J i = true → S v) → AnyJ P md ops Q S J f (ls.setIfInBounds i true) b v → K b v) → if Region.wanted o (yielded ops a.tmps) = true then Oper.wp P o a w K Q else K (a.put o.dst undef) w) : AnyJ P md ops Q S J (f + 1) ls a w :=
 ⟨fun e => absurd e (by rw [hr]; exact List.cons_ne_nil _ _), fun j hj => by
  rw [hr, List.mem_singleton] at hj
  subst hj
  exact wpOp_step ho (fun K hK => h K (fun b v h1 h2 => hK b v ⟨h1, h2⟩))⟩
theorem AnyJ.two {i j : Nat} {o p : Oper} {f : Nat} {ls : Array Bool} {a : Act} {w : World} (hr : Region.ready md ops ls = [i, j]) (ho : ops[i]? = some o) (hp : ops[j]? = some p)
  (h : ∀ K : Act → World → Prop, (∀ b v, (J i = true → S v) → AnyJ P md ops Q S J f (ls.setIfInBounds i true) b v → K b v) → if Region.wanted o (yielded ops a.tmps) = true then Oper.wp P o a w K Q else K (a.put o.dst undef) w)
  (k : ∀ K : Act → World → Prop, (∀ b v, (J j = true → S v) → AnyJ P md ops Q S J f (ls.setIfInBounds j true) b v → K b v) → if Region.wanted p (yielded ops a.tmps) = true then Oper.wp P p a w K Q else K (a.put p.dst undef) w) : AnyJ P md ops Q S J (f + 1) ls a w :=
 ⟨fun e => absurd e (by rw [hr]; exact List.cons_ne_nil _ _), fun q hq => by
  rw [hr] at hq
  rcases List.mem_cons.1 hq with e | e
  ·
   subst e; exact wpOp_step ho (fun K hK => h K (fun b v h1 h2 => hK b v ⟨h1, h2⟩))
  ·
   rw [List.mem_singleton] at e
   subst e; exact wpOp_step hp (fun K hK => k K (fun b v h1 h2 => hK b v ⟨h1, h2⟩))⟩
theorem AnyJ.done {ls : Array Bool} {a : Act} {w : World} (hr : Region.ready md ops ls = []) (h : Q .normal a w) : ∀ f, AnyJ P md ops Q S J f ls a w
 | 0 => ⟨hr, h⟩
 | _ + 1 => ⟨fun _ => h, fun i hi => by rw [hr] at hi; exact absurd hi List.not_mem_nil⟩
/-- The beginning, within a round. -/
theorem AnyJ.begin {l n id : Nat} {a : Act} {w : World} (S : World → Prop) (J : Nat → Bool) (hm : P.follows .mixedOrders = true) (ht : tameOps ops = true) (hQ : ¬ LetsOut Q)
  (h : AnyJ P .any ops Q S J ops.size (Array.replicate ops.size false) a w.drew) : (Code.region id ops true).wpIn (Fence.wide.inRound l) n P Q a w :=
 wpIn_region_any hm (any_in ht hQ _ _ _ _ (AnyJ.any _ _ _ _ h))
end
end Go.Proofs.YtlmajlfhjbhdpaaGreat
