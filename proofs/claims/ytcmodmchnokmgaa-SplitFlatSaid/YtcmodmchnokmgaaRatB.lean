/-
 Plain facts on rounding. No program is in sight here.
-/
import Derived.Test.YtcmodmchnokmgaaRatA
namespace Go.Proofs.Ytcmodmchnokmgaa
set_option linter.unusedSimpArgs false
set_option linter.unusedVariables false
/-- Is the value rounded up? 'way' is 1 (down), 2 (up), 3 (even); q the value below, r what is left of d. -/
def nxB (way q r d : Int) : Bool :=
 if way = 1 then false else if way = 2 then decide (0 < r) else decide (d < 2 * r) || (decide (2 * r = d) && decide (q % 2 = 1))
/-- n / d, rounded. -/
def rnd (way n d : Int) : Int := if nxB way (n / d) (n % d) d then n / d + 1 else n / d
theorem nxB_1 (q r d : Int) : nxB 1 q r d = false := rfl
theorem nxB_2 (q r d : Int) : nxB 2 q r d = decide (0 < r) := rfl
theorem nxB_3 (q r d : Int) : nxB 3 q r d = (decide (d < 2 * r) || (decide (2 * r = d) && decide (q % 2 = 1))) := rfl
/-- The quotient that Go computes, and the floor. -/
theorem floor_nonneg {n d : Int} (hn : 0 ≤ n) (hd : 1 ≤ d) : n / d * d ≤ n ∧ n - n / d * d = n % d ∧ 0 ≤ n / d ∧ n / d ≤ n := by
 have h1 := Int.mul_ediv_add_emod n d
 have h2 := Int.emod_nonneg n (show d ≠ 0 by omega)
 have h3 : d * (n / d) = n / d * d := Int.mul_comm _ _
 refine ⟨by omega, by omega, Int.ediv_nonneg hn (by omega), Int.ediv_le_self d hn⟩
theorem tdiv_neg {n d : Int} (hn : n < 0) (hd : 1 ≤ d) : n.tdiv d = -((-n) / d) := by
 obtain ⟨m, rfl⟩ : ∃ m, n = -m := ⟨-n, by omega⟩
 rw [Int.neg_tdiv, Int.neg_neg, Int.tdiv_eq_ediv_of_nonneg (by omega)]
theorem floor_neg {n d : Int} (hn : n < 0) (hd : 1 ≤ d) :
  n ≤ n.tdiv d * d ∧ n.tdiv d * d ≤ 0 ∧ n ≤ n.tdiv d ∧ n.tdiv d ≤ 0 ∧
  (n < n.tdiv d * d → n.tdiv d - 1 = n / d ∧ n - (n.tdiv d - 1) * d = n % d ∧ (n.tdiv d - 1) * d = n.tdiv d * d - d) ∧
  (n.tdiv d * d ≤ n → n.tdiv d = n / d ∧ n - n.tdiv d * d = n % d) := by
 have e := tdiv_neg hn hd
 obtain ⟨k1, k2, k3, k4⟩ := floor_nonneg (n := -n) (d := d) (by omega) hd
 have h1 := Int.mul_ediv_add_emod (-n) d
 have h2 := Int.emod_lt_of_pos (-n) (show 0 < d by omega)
 have h2' := Int.emod_nonneg (-n) (show d ≠ 0 by omega)
 have e2 : n.tdiv d * d = -((-n) / d * d) := by rw [e, Int.neg_mul]
 have e2' : 0 ≤ (-n) / d * d := Int.mul_nonneg k3 (by omega)
 have e3 : (n.tdiv d - 1) * d = n.tdiv d * d - d := by rw [Int.sub_mul, Int.one_mul]
 have g1 := Int.mul_ediv_add_emod n d
 have g2 := Int.emod_lt_of_pos n (show 0 < d by omega)
 have g2' := Int.emod_nonneg n (show d ≠ 0 by omega)
 have uniq : ∀ q r : Int, n = q * d + r → 0 ≤ r → r < d → q = n / d ∧ r = n % d := by
  intro q r h a b
  have hq : n / d = q := by
   rw [h, Int.add_comm, Int.add_mul_ediv_right _ _ (by omega), Int.ediv_eq_zero_of_lt a b]; omega
  refine ⟨hq.symm, ?_⟩
  have : d * (n / d) = q * d := by rw [hq, Int.mul_comm]
  omega
 refine ⟨by omega, by omega, by omega, by omega, fun h => ?_, fun h => ?_⟩
 ·
  have := uniq (n.tdiv d - 1) (n - (n.tdiv d - 1) * d) (by omega) (by omega) (by omega)
  exact ⟨this.1, this.2, e3⟩
 ·
  exact uniq (n.tdiv d) (n - n.tdiv d * d) (by omega) (by omega) (by omega)
theorem rnd_up {way n d q r : Int} (hq : q = n / d) (hr : r = n % d) (h : nxB way q r d = true) : rnd way n d = q + 1 := by
 subst hq hr; unfold rnd; rw [if_pos h]
theorem rnd_dn {way n d q r : Int} (hq : q = n / d) (hr : r = n % d) (h : nxB way q r d = false) : rnd way n d = q := by
 subst hq hr; unfold rnd; rw [if_neg (by rw [h]; simp)]
theorem rnd_bound (way : Int) {n d : Int} (hd : 1 ≤ d) : -(n.natAbs : Int) ≤ rnd way n d ∧ rnd way n d ≤ n.natAbs + 1 := by
 have h1 := Int.mul_ediv_add_emod n d
 have h2 := Int.emod_lt_of_pos n (show 0 < d by omega)
 have h3 := Int.emod_nonneg n (show d ≠ 0 by omega)
 have hq : -(n.natAbs : Int) ≤ n / d ∧ n / d ≤ n.natAbs := by
  rcases Int.lt_or_le n 0 with hn | hn
  ·
   obtain ⟨a1, a2, a3, a4, a5, a6⟩ := floor_neg hn hd
   constructor
   ·
    by_cases h : n < n.tdiv d * d
    ·
     have := (a5 h).1
     have k : n ≤ n / d := by
      rcases Int.lt_or_le (n / d) n with hlt | hge
      ·
       exfalso
       have := Int.mul_le_mul_of_nonneg_left (c := d) (show n / d ≤ n - 1 by omega) (by omega)
       have e : d * (n - 1) = d * n - d := by rw [Int.mul_sub, Int.mul_one]
       have := Int.mul_le_mul_of_nonneg_right (c := -n) (show 1 ≤ d by omega) (by omega)
       have e4 : d * -n = -(d * n) := Int.mul_neg _ _
       omega
      ·
       exact hge
     omega
    ·
     have := (a6 (by omega)).1; omega
   ·
    have : n / d ≤ 0 := by
     rcases Int.lt_or_le 0 (n / d) with hlt | hge
     ·
      have := Int.mul_pos (show 0 < d by omega) hlt; omega
     ·
      exact hge
    omega
  ·
   obtain ⟨k1, k2, k3, k4⟩ := floor_nonneg hn hd
   omega
 unfold rnd; split <;> omega
end Go.Proofs.Ytcmodmchnokmgaa
