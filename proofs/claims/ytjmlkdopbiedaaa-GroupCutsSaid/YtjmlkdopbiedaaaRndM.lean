/-
  Plain facts on rounding: it is monotone; a part between 0 and 1 of a number is between 0 and the number.
-/
import Derived.Test.YtjmlkdopbiedaaaRatB
namespace Go.Proofs.Ytjmlkdopbiedaaa
set_option linter.unusedSimpArgs false
set_option linter.unusedVariables false

theorem rnd_mono (way : Int) {n m d : Int} (hd : 1 ≤ d) (h : n ≤ m) : rnd way n d ≤ rnd way m d := by
  have hq : n / d ≤ m / d := Int.ediv_le_ediv (by omega) h
  have up : ∀ x : Int, rnd way x d = x / d ∨ rnd way x d = x / d + 1 := fun x => by unfold rnd; split <;> simp
  rcases Int.lt_or_eq_of_le hq with h1 | h1
  · rcases up n with a | a <;> rcases up m with b | b <;> omega
  · have g1 := Int.mul_ediv_add_emod n d
    have g2 := Int.mul_ediv_add_emod m d
    have g3 : n % d ≤ m % d := by rw [h1] at g1; omega
    by_cases hx : nxB way (n / d) (n % d) d = true
    · have hy : nxB way (m / d) (m % d) d = true := by
        rw [← h1]
        unfold nxB at hx ⊢
        split
        · simp_all
        · split
          · simp_all; omega
          · simp_all; omega
      rw [rnd_up rfl rfl hx, rnd_up rfl rfl hy]; omega
    · have hx' : nxB way (n / d) (n % d) d = false := by simpa using hx
      rw [rnd_dn rfl rfl hx']
      rcases up m with b | b <;> omega

theorem rnd_whole (way n : Int) {d : Int} (hd : 1 ≤ d) : rnd way (n * d) d = n := by
  have e1 : n * d / d = n := Int.mul_ediv_cancel n (by omega)
  have e2 : n * d % d = 0 := Int.mul_emod_left n d
  have h : nxB way n 0 d = false := by
    unfold nxB
    split
    · rfl
    · split
      · simp
      · simp; omega
  unfold rnd
  rw [e1, e2, h]; simp
theorem rnd_zero (way : Int) {d : Int} (hd : 1 ≤ d) : rnd way 0 d = 0 := by
  have := rnd_whole way 0 hd
  rwa [Int.zero_mul] at this
/-- A part between 0 and 1. -/
theorem rnd_part (way : Int) {n a b : Int} (hb : 1 ≤ b) (hn : 0 ≤ n) (h1 : 0 ≤ a) (h2 : a ≤ b) : 0 ≤ rnd way (n * a) b ∧ rnd way (n * a) b ≤ n := by
  constructor
  · have h := rnd_mono way hb (show (0 : Int) ≤ n * a from Int.mul_nonneg hn h1)
    rwa [rnd_zero way hb] at h
  · have h := rnd_mono way hb (show n * a ≤ n * b from Int.mul_le_mul_of_nonneg_left h2 hn)
    rwa [rnd_whole way n hb] at h
/-- The least integer that is not less. -/
theorem rnd_up_spec (n : Int) {d : Int} (hd : 1 ≤ d) : n ≤ rnd 2 n d * d ∧ (rnd 2 n d - 1) * d < n := by
  have g1 := Int.mul_ediv_add_emod n d
  have g2 := Int.emod_lt_of_pos n (show 0 < d by omega)
  have g3 := Int.emod_nonneg n (show d ≠ 0 by omega)
  have g4 : d * (n / d) = n / d * d := Int.mul_comm _ _
  by_cases h : 0 < n % d
  · rw [rnd_up (way := 2) rfl rfl (by rw [nxB_2]; simpa using h)]
    rw [Int.add_mul, Int.one_mul, show n / d + 1 - 1 = n / d by omega]
    omega
  · rw [rnd_dn (way := 2) rfl rfl (by rw [nxB_2]; simpa using h)]
    rw [Int.sub_mul, Int.one_mul]
    omega

end Go.Proofs.Ytjmlkdopbiedaaa
