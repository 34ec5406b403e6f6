/-
 Plain facts: the best of the rates that apply, along what the iterator yields; prices of nights and stays.
-/
import Derived.Test.YtcmodmchnokmgaaEvL
import Derived.Test.YtcmodmchnokmgaaRatT
namespace Go.Proofs.Ytcmodmchnokmgaa
set_option linter.unusedSimpArgs false
set_option linter.unusedVariables false
open Go.RowKit
def thP (a : AskV) (nt : Int) (l : List RateV) : List (RateV × Int) := l.filterMap (fun r => if (appl r a nt).1 = true ∨ (appl r a nt).2 ≠ 0 then some (r, (appl r a nt).2) else none)
theorem thK_val (l : List RateV) (a : AskV) (nt : Int) (k : Nat) : (thK l a nt k).map Subtype.val = thP a nt (l.take k) := by
 unfold thK thP
 rw [List.map_filterMap]
 have h : ∀ (m : List { r : RateV // r ∈ l }), m.filterMap (fun r => (thF l a nt r).map Subtype.val) = (m.map Subtype.val).filterMap (fun r => if (appl r a nt).1 = true ∨ (appl r a nt).2 ≠ 0 then some (r, (appl r a nt).2) else none) := by
  intro m
  induction m with
  | nil => rfl
  | cons x r ih =>
   rw [List.map_cons, List.filterMap_cons, List.filterMap_cons, ih]
   unfold thF
   by_cases hx : (appl x.1 a nt).1 = true ∨ (appl x.1 a nt).2 ≠ 0
   ·
    simp [hx]
   ·
    simp [hx]
 rw [h, List.map_take, List.attach_map_subtype_val]
/-- The first error, or the best. -/
def goP : Option RateV → List (RateV × Int) → Option RateV × Int
 | b, [] => (b, 0)
 | b, p :: t => if p.2 ≠ 0 then (none, p.2) else goP (upd1 b p.1) t
theorem bestR_goP (a : AskV) (nt : Int) : ∀ (l : List RateV) (b : Option RateV), bestR a nt b l = goP b (thP a nt l)
 | [], b => rfl
 | r :: t, b => by
  unfold bestR thP
  rw [List.filterMap_cons]
  by_cases he : (appl r a nt).2 ≠ 0
  ·
   rw [if_pos he, if_pos (Or.inr he)]
   simp only [goP]
   rw [if_pos he]
  ·
   rw [if_neg he]
   by_cases hb : (appl r a nt).1 = true
   ·
    rw [if_pos hb, if_pos (Or.inl hb)]
    simp only [goP]
    rw [if_neg he]
    exact bestR_goP a nt t _
   ·
    rw [if_neg hb, if_neg (by simp [hb]; simpa using he)]
    exact bestR_goP a nt t b
def okP (l : List (RateV × Int)) : Prop := ∀ p ∈ l, p.2 = 0
def topP (l : List (RateV × Int)) : Option RateV := l.foldl (fun b p => upd1 b p.1) none
theorem topP_snoc (l : List (RateV × Int)) (p : RateV × Int) : topP (l ++ [p]) = upd1 (topP l) p.1 := by unfold topP; rw [List.foldl_append]; rfl
theorem goP_ok : ∀ (l m : List (RateV × Int)) (b : Option RateV), okP l → goP b (l ++ m) = goP (l.foldl (fun b p => upd1 b p.1) b) m
 | [], m, b, _ => rfl
 | p :: t, m, b, h => by
  rw [List.cons_append]
  show (if p.2 ≠ 0 then (none, p.2) else goP (upd1 b p.1) (t ++ m)) = _
  rw [if_neg (by rw [h p (by simp)]; simp), List.foldl_cons]
  exact goP_ok t m _ (fun x hx => h x (by simp [hx]))
theorem goP_all {l : List (RateV × Int)} (h : okP l) : goP none l = (topP l, 0) := by
 have := goP_ok l [] none h
 rw [List.append_nil] at this
 rw [this]; rfl
theorem goP_err {l m : List (RateV × Int)} {p : RateV × Int} (h : okP l) (hp : p.2 ≠ 0) : goP none (l ++ p :: m) = (none, p.2) := by
 rw [goP_ok l (p :: m) none h]
 simp only [goP]
 rw [if_pos hp]
/-- The best is one of the list. -/
theorem upd1_mem {b : Option RateV} {r x : RateV} (h : upd1 b r = some x) : x = r ∨ b = some x := by
 unfold upd1 at h
 cases b with
 | none => left; exact (Option.some.inj h).symm
 | some y =>
  simp only at h
  split at h
  ·
   left; exact (Option.some.inj h).symm
  ·
   right; exact h
theorem topP_mem : ∀ (l : List (RateV × Int)) (b : Option RateV) (x : RateV), l.foldl (fun b p => upd1 b p.1) b = some x → b = some x ∨ ∃ p ∈ l, p.1 = x
 | [], b, x, h => Or.inl h
 | p :: t, b, x, h => by
  rw [List.foldl_cons] at h
  rcases topP_mem t _ x h with h1 | ⟨q, hq, e⟩
  ·
   rcases upd1_mem h1 with rfl | h2
   ·
    exact Or.inr ⟨p, by simp, rfl⟩
   ·
    exact Or.inl h2
  ·
   exact Or.inr ⟨q, by simp [hq], e⟩
/-- What priced answers: the price, the rate, an error. -/
def priceN (l : List RateV) (a : AskV) (nt : Int) : Int × Option RateV × Int :=
 if (bestR a nt none l).2 ≠ 0 then (0, none, (bestR a nt none l).2)
 else match (bestR a nt none l).1 with
  | none => (0, none, 4)
  | some r => if (costR a nt r).2 ≠ 0 then (0, none, (costR a nt r).2) else ((costR a nt r).1, some r, 0)
end Go.Proofs.Ytcmodmchnokmgaa
