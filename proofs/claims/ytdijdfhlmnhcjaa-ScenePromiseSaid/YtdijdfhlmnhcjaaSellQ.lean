/-
  Plain facts on what the channels sell one after the other, along a list of channels with their shares.
-/
import Derived.Test.YtdijdfhlmnhcjaaSellers
namespace Go.Proofs.Ytdijdfhlmnhcjaa
set_option linter.unusedSimpArgs false
set_option linter.unusedVariables false

def sC : Int → List ChS → List Int
  | _, [] => []
  | left, p :: r => if left = 0 then [] else p.1.1 :: sC (left - min left p.1.2) r
def sS : Int → List ChS → List Int
  | _, [] => []
  | left, p :: r => if left = 0 then [] else min left p.1.2 :: sS (left - min left p.1.2) r
def sLeft (L : Int) (ps : List ChS) : Int := L - (sS L ps).sum
theorem sLeft_cons {L : Int} {p : ChS} {r : List ChS} (h : L ≠ 0) : sLeft L (p :: r) = sLeft (L - min L p.1.2) r := by
  unfold sLeft
  rw [show sS L (p :: r) = min L p.1.2 :: sS (L - min L p.1.2) r from if_neg h]
  simp only [List.sum_cons]; omega
theorem sLeft_zero (ps : List ChS) : sLeft 0 ps = 0 := by
  cases ps <;> simp [sLeft, sS]
theorem sC_snoc (x : ChS) : ∀ (ps : List ChS) (L : Int), sC L (ps ++ [x]) = sC L ps ++ (if sLeft L ps = 0 then [] else [x.1.1])
  | [], L => by simp [sC, sLeft, sS]
  | p :: r, L => by
    by_cases h : L = 0
    · subst h; rw [sLeft_zero]; simp [sC]
    · rw [sLeft_cons h, List.cons_append, show sC L (p :: (r ++ [x])) = p.1.1 :: sC (L - min L p.1.2) (r ++ [x]) from if_neg h, show sC L (p :: r) = p.1.1 :: sC (L - min L p.1.2) r from if_neg h, sC_snoc x r]
      simp
theorem sS_snoc (x : ChS) : ∀ (ps : List ChS) (L : Int), sS L (ps ++ [x]) = sS L ps ++ (if sLeft L ps = 0 then [] else [min (sLeft L ps) x.1.2])
  | [], L => by simp [sLeft, sS]
  | p :: r, L => by
    by_cases h : L = 0
    · subst h; rw [sLeft_zero]; simp [sS]
    · rw [sLeft_cons h, List.cons_append, show sS L (p :: (r ++ [x])) = min L p.1.2 :: sS (L - min L p.1.2) (r ++ [x]) from if_neg h, show sS L (p :: r) = min L p.1.2 :: sS (L - min L p.1.2) r from if_neg h, sS_snoc x r]
      simp
theorem sLeft_snoc (x : ChS) (ps : List ChS) (L : Int) : sLeft L (ps ++ [x]) = sLeft L ps - (if sLeft L ps = 0 then 0 else min (sLeft L ps) x.1.2) := by
  have h2 : sLeft L ps = L - (sS L ps).sum := rfl
  have h3 : sLeft L (ps ++ [x]) = L - (sS L (ps ++ [x])).sum := rfl
  rw [h3, sS_snoc, List.sum_append]
  by_cases h : sLeft L ps = 0
  · rw [if_pos h, if_pos h]; simp; omega
  · rw [if_neg h, if_neg h]; simp; omega
theorem sLeft_in : ∀ (ps : List ChS) (L : Int), 0 ≤ L → 0 ≤ sLeft L ps ∧ sLeft L ps ≤ L
  | [], L, h => by simp [sLeft, sS]; exact h
  | p :: r, L, h => by
    by_cases h0 : L = 0
    · subst h0; rw [sLeft_zero]; omega
    · rw [sLeft_cons h0]
      have hp := p.2
      have := sLeft_in r (L - min L p.1.2) (by omega)
      omega
theorem sC_length : ∀ (ps : List ChS) (L : Int), (sC L ps).length ≤ ps.length ∧ (sS L ps).length = (sC L ps).length
  | [], L => by simp [sC, sS]
  | p :: r, L => by
    unfold sC sS
    split
    · simp
    · have := sC_length r (L - min L p.1.2)
      simp; omega
theorem sC_pairs {zs : List Int} (h : shIn zs) : ∀ (l : List Int) (L : Int), sC L (pairsS zs l) = sellC zs L l
  | [], L => rfl
  | i :: r, L => by
    have e := chS_eq h i
    have e1 : (chS zs i).1.1 = i := by rw [e]
    have e2 : (chS zs i).1.2 = shr zs i := by rw [e]
    unfold pairsS
    rw [List.map_cons]
    unfold sC sellC
    rw [e1, e2]
    split
    · rfl
    · rw [show List.map (chS zs) r = pairsS zs r from rfl, sC_pairs h r]
theorem sS_pairs {zs : List Int} (h : shIn zs) : ∀ (l : List Int) (L : Int), sS L (pairsS zs l) = sellS zs L l
  | [], L => rfl
  | i :: r, L => by
    have e := chS_eq h i
    have e2 : (chS zs i).1.2 = shr zs i := by rw [e]
    unfold pairsS
    rw [List.map_cons]
    unfold sS sellS
    rw [e2]
    split
    · rfl
    · rw [show List.map (chS zs) r = pairsS zs r from rfl, sS_pairs h r]
/-- Where nothing is left, the rest sells nothing. -/
theorem sC_stop : ∀ (ps qs : List ChS) (L : Int), sLeft L ps = 0 → sC L (ps ++ qs) = sC L ps ∧ sS L (ps ++ qs) = sS L ps
  | ps, [], L, _ => by simp
  | ps, x :: qs, L, h => by
    have e : ps ++ x :: qs = (ps ++ [x]) ++ qs := by simp
    have h2 : sLeft L (ps ++ [x]) = 0 := by rw [sLeft_snoc, h]; simp
    have ih := sC_stop (ps ++ [x]) qs L h2
    rw [e, ih.1, ih.2, sC_snoc, sS_snoc, h]
    simp
  termination_by _ qs => qs.length

end Go.Proofs.Ytdijdfhlmnhcjaa
