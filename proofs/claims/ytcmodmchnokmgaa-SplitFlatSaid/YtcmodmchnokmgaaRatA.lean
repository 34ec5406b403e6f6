/-
 Plain facts on fractions: the greatest common divisor, a fraction in lowest terms, and when two fractions are reduced to the same one. No program is in sight here.
-/
namespace Go.Proofs.Ytcmodmchnokmgaa
set_option linter.unusedSimpArgs false
set_option linter.unusedVariables false
/-- The greatest common divisor of two integers, as an integer. -/
def gI (n d : Int) : Int := (Int.gcd n d : Int)
theorem gI_pos {n d : Int} (h : 0 < d) : 0 < gI n d := by
 unfold gI
 have : 0 < Int.gcd n d := Int.gcd_pos_of_ne_zero_right n (by omega)
 omega
theorem gI_dvd_left (n d : Int) : gI n d ∣ n := Int.gcd_dvd_left n d
theorem gI_dvd_right (n d : Int) : gI n d ∣ d := Int.gcd_dvd_right n d
theorem gI_le {n d : Int} (h : 0 < d) : gI n d ≤ d := Int.le_of_dvd h (gI_dvd_right n d)
/-- The reduced numerator and denominator. -/
def rN (n d : Int) : Int := n / gI n d
def rD (n d : Int) : Int := d / gI n d
theorem rN_tdiv (n d : Int) : n.tdiv (gI n d) = rN n d := Int.tdiv_eq_ediv_of_dvd (gI_dvd_left n d)
theorem rD_tdiv (n d : Int) : d.tdiv (gI n d) = rD n d := Int.tdiv_eq_ediv_of_dvd (gI_dvd_right n d)
theorem rN_mul (n d : Int) : rN n d * gI n d = n := Int.ediv_mul_cancel (gI_dvd_left n d)
theorem rD_mul (n d : Int) : rD n d * gI n d = d := Int.ediv_mul_cancel (gI_dvd_right n d)
theorem rD_pos {n d : Int} (h : 0 < d) : 0 < rD n d := by
 have hg := gI_pos (n := n) h
 have hm := rD_mul n d
 rcases Int.lt_or_le 0 (rD n d) with h1 | h1
 ·
  exact h1
 ·
  have := Int.mul_le_mul_of_nonneg_right h1 (Int.le_of_lt hg); omega
theorem rD_le {n d : Int} (h : 0 < d) : rD n d ≤ d := by
 have hg := gI_pos (n := n) h
 have hm := rD_mul n d
 have hp := rD_pos (n := n) h
 have := Int.mul_le_mul_of_nonneg_left (show 1 ≤ gI n d by omega) (Int.le_of_lt hp); omega
theorem rN_bound {n d : Int} (h : 0 < d) : -n.natAbs ≤ rN n d ∧ rN n d ≤ n.natAbs := by
 have hg := gI_pos (n := n) h
 have hm := rN_mul n d
 rcases Int.lt_or_le (rN n d) 0 with h1 | h1
 ·
  have h2 := Int.mul_le_mul_of_nonneg_left (show 1 ≤ gI n d by omega) (show 0 ≤ -rN n d by omega)
  simp only [Int.neg_mul] at h2; omega
 ·
  have := Int.mul_le_mul_of_nonneg_left (show 1 ≤ gI n d by omega) h1; omega
/-- Cross products: the reduced fraction is the same fraction. -/
theorem r_cross (n d : Int) : rN n d * d = rD n d * n := by
 have h1 := rN_mul n d
 have h2 := rD_mul n d
 calc rN n d * d = rN n d * (rD n d * gI n d) := by rw [h2]
  _ = rD n d * (rN n d * gI n d) := by grind
  _ = rD n d * n := by rw [h1]
theorem gI_scale (n d : Int) {k : Int} (hk : 0 < k) : gI (n * k) (d * k) = gI n d * k := by
 unfold gI
 rw [Int.gcd_mul_right]
 push_cast
 rw [Int.natAbs_of_nonneg (Int.le_of_lt hk)]
theorem r_scale (n d : Int) {k : Int} (hk : 0 < k) : rN (n * k) (d * k) = rN n d ∧ rD (n * k) (d * k) = rD n d := by
 unfold rN rD
 rw [gI_scale n d hk]
 exact ⟨Int.mul_ediv_mul_of_pos_left _ _ hk, Int.mul_ediv_mul_of_pos_left _ _ hk⟩
/-- Two writings of one fraction are reduced to the same. -/
theorem r_same {n d n' d' : Int} (hd : 0 < d) (hd' : 0 < d') (h : n * d' = n' * d) : rN n d = rN n' d' ∧ rD n d = rD n' d' := by
 have a := r_scale n d hd'
 have b := r_scale n' d' hd
 rw [h, Int.mul_comm d d'] at a
 exact ⟨a.1.symm.trans b.1, a.2.symm.trans b.2⟩
/-- In lowest terms. -/
theorem r_lowest {n d : Int} (h : gI n d = 1) : rN n d = n ∧ rD n d = d := by
 unfold rN rD; rw [h]; exact ⟨Int.ediv_one n, Int.ediv_one d⟩
theorem gI_r {n d : Int} (hd : 0 < d) : gI (rN n d) (rD n d) = 1 := by
 have hg := gI_pos (n := n) hd
 have h := gI_scale (rN n d) (rD n d) hg
 rw [rN_mul, rD_mul] at h
 have h2 : gI (rN n d) (rD n d) * gI n d = 1 * gI n d := by omega
 exact Int.eq_of_mul_eq_mul_right (by omega) h2
/-- What 'Valid' says. -/
def vldP (n d : Int) : Prop := 1 ≤ d ∧ d ≤ 1000000 ∧ -1000000000 ≤ n ∧ n ≤ 1000000000 ∧ gI n d = 1
instance (n d : Int) : Decidable (vldP n d) := by unfold vldP; exact inferInstance
def vld (n d : Int) : Bool := decide (vldP n d)
/-- Does the reduced fraction fit? -/
def fitsP (n d : Int) : Prop := -1000000000 ≤ rN n d ∧ rN n d ≤ 1000000000 ∧ rD n d ≤ 1000000
instance (n d : Int) : Decidable (fitsP n d) := by unfold fitsP; exact inferInstance
def fitN (n d : Int) : Int := if fitsP n d then rN n d else 0
def fitD (n d : Int) : Int := if fitsP n d then rD n d else 0
def fitE (n d : Int) : Int := if fitsP n d then 0 else 3
theorem fit_same {n d n' d' : Int} (hd : 0 < d) (hd' : 0 < d') (h : n * d' = n' * d) : fitN n d = fitN n' d' ∧ fitD n d = fitD n' d' ∧ fitE n d = fitE n' d' := by
 have ⟨a, b⟩ := r_same hd hd' h
 have e : fitsP n d ↔ fitsP n' d' := by unfold fitsP; rw [a, b]
 unfold fitN fitD fitE
 by_cases hf : fitsP n d
 ·
  simp only [if_pos hf, if_pos (e.1 hf), a, b]; exact ⟨trivial, trivial, trivial⟩
 ·
  simp only [if_neg hf, if_neg (fun h => hf (e.2 h))]; exact ⟨trivial, trivial, trivial⟩
theorem fit_ok {n d : Int} (hd : 0 < d) (h : fitE n d = 0) : vldP (fitN n d) (fitD n d) ∧ fitN n d * d = fitD n d * n ∧ 0 < fitD n d := by
 unfold fitE at h
 unfold fitN fitD
 by_cases hf : fitsP n d
 ·
  simp only [if_pos hf]
  have hp := rD_pos (n := n) hd
  exact ⟨⟨by omega, hf.2.2, hf.1, hf.2.1, gI_r hd⟩, r_cross n d, hp⟩
 ·
  simp [hf] at h
theorem fit_vld {n d : Int} (h : vldP n d) : fitN n d = n ∧ fitD n d = d ∧ fitE n d = 0 := by
 obtain ⟨h1, h2, h3, h4, h5⟩ := h
 have ⟨a, b⟩ := r_lowest h5
 have : fitsP n d := by unfold fitsP; rw [a, b]; exact ⟨h3, h4, h2⟩
 unfold fitN fitD fitE; simp only [if_pos this, a, b]; exact ⟨trivial, trivial, trivial⟩
theorem fitE_or (n d : Int) : fitE n d = 0 ∨ fitE n d = 3 := by unfold fitE; split <;> simp
theorem vld_r {n d : Int} (hd : 0 < d) (hd2 : d ≤ 1000000) (h3 : -1000000000 ≤ n) (h4 : n ≤ 1000000000) : vldP n d ↔ rN n d = n ∧ rD n d = d := by
 constructor
 ·
  intro h; exact r_lowest h.2.2.2.2
 ·
  rintro ⟨a, b⟩
  refine ⟨by omega, hd2, h3, h4, ?_⟩
  have := gI_r (n := n) hd
  rwa [a, b] at this
end Go.Proofs.Ytcmodmchnokmgaa
