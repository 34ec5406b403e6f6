/-
  Sums and products of valid ratios: the contracts without the error for what is not valid; and the plain laws of sums and products.
-/
import Derived.Test.YtmndiejojlmblaaRatH
namespace Go.Proofs.Ytmndiejojlmblaa
set_option linter.unusedSimpArgs false
set_option linter.unusedVariables false
open Go.RowKit

theorem Add_v (a b c d : Int) (w : World) (h1 : vldP a b) (h2 : vldP c d) :
    Calls Try.prog 15 #[.agg #[.int .i64 a, .int .i64 b], .agg #[.int .i64 c, .int .i64 d]] w fun e w' =>
      e = .returned (.tuple #[.agg #[.int .i64 (fitN (a * d + c * b) (b * d)), .int .i64 (fitD (a * d + c * b) (b * d))], .int .i64 (fitE (a * d + c * b) (b * d))]) ∧ Below w.heap.size w w' := by
  have h := Add_any a b c d w
  rwa [opN_ok h1 h2, opD_ok h1 h2, opE_ok h1 h2] at h
theorem Sub_v (a b c d : Int) (w : World) (h1 : vldP a b) (h2 : vldP c d) :
    Calls Try.prog 18 #[.agg #[.int .i64 a, .int .i64 b], .agg #[.int .i64 c, .int .i64 d]] w fun e w' =>
      e = .returned (.tuple #[.agg #[.int .i64 (fitN (a * d - c * b) (b * d)), .int .i64 (fitD (a * d - c * b) (b * d))], .int .i64 (fitE (a * d - c * b) (b * d))]) ∧ Below w.heap.size w w' := by
  have h := Sub_any a b c d w
  rwa [opN_ok h1 h2, opD_ok h1 h2, opE_ok h1 h2] at h
theorem Mul_v (a b c d : Int) (w : World) (h1 : vldP a b) (h2 : vldP c d) :
    Calls Try.prog 13 #[.agg #[.int .i64 a, .int .i64 b], .agg #[.int .i64 c, .int .i64 d]] w fun e w' =>
      e = .returned (.tuple #[.agg #[.int .i64 (fitN (a * c) (b * d)), .int .i64 (fitD (a * c) (b * d))], .int .i64 (fitE (a * c) (b * d))]) ∧ Below w.heap.size w w' := by
  have h := Mul_any a b c d w
  rwa [opN_ok h1 h2, opD_ok h1 h2, opE_ok h1 h2] at h
theorem Add_not (a b c d : Int) (w : World) (h : ¬ (vldP a b ∧ vldP c d)) :
    Calls Try.prog 15 #[.agg #[.int .i64 a, .int .i64 b], .agg #[.int .i64 c, .int .i64 d]] w fun e w' =>
      e = .returned (.tuple #[.agg #[.int .i64 0, .int .i64 0], .int .i64 1]) ∧ Below w.heap.size w w' := by
  have k := Add_any a b c d w
  obtain ⟨o1, o2, o3⟩ := op_not (n := a * d + c * b) (m := b * d) h
  rwa [o1, o2, o3] at k
theorem Sub_not (a b c d : Int) (w : World) (h : ¬ (vldP a b ∧ vldP c d)) :
    Calls Try.prog 18 #[.agg #[.int .i64 a, .int .i64 b], .agg #[.int .i64 c, .int .i64 d]] w fun e w' =>
      e = .returned (.tuple #[.agg #[.int .i64 0, .int .i64 0], .int .i64 1]) ∧ Below w.heap.size w w' := by
  have k := Sub_any a b c d w
  obtain ⟨o1, o2, o3⟩ := op_not (n := a * d - c * b) (m := b * d) h
  rwa [o1, o2, o3] at k
theorem Mul_not (a b c d : Int) (w : World) (h : ¬ (vldP a b ∧ vldP c d)) :
    Calls Try.prog 13 #[.agg #[.int .i64 a, .int .i64 b], .agg #[.int .i64 c, .int .i64 d]] w fun e w' =>
      e = .returned (.tuple #[.agg #[.int .i64 0, .int .i64 0], .int .i64 1]) ∧ Below w.heap.size w w' := by
  have k := Mul_any a b c d w
  obtain ⟨o1, o2, o3⟩ := op_not (n := a * c) (m := b * d) h
  rwa [o1, o2, o3] at k

/-- The reduced fraction of a fraction whose reduced fraction is p / q. -/
theorem fit_cross {n d p q : Int} (hd : 0 < d) (hq : 0 < q) (hv : vldP p q) (h : n * q = p * d) : fitN n d = p ∧ fitD n d = q ∧ fitE n d = 0 := by
  obtain ⟨a, b, c⟩ := fit_same hd hq h
  obtain ⟨k1, k2, k3⟩ := fit_vld hv
  exact ⟨a.trans k1, b.trans k2, c.trans k3⟩

theorem distrib {a0 a1 b0 b1 c0 c1 sN sD xN xD zN zD : Int} (ha : 0 < a1) (hb : 0 < b1) (hc : 0 < c1)
    (hs : sN * (b1 * c1) = sD * (b0 * c1 + c0 * b1)) (hx : xN * (a1 * b1) = xD * (a0 * b0)) (hz : zN * (a1 * c1) = zD * (a0 * c0)) :
    a0 * sN * (xD * zD) = (xN * zD + zN * xD) * (a1 * sD) := by
  have hk : b1 * c1 ≠ 0 := Int.mul_ne_zero (by omega) (by omega)
  refine Int.eq_of_mul_eq_mul_right hk ?_
  clear ha hb hc hk
  grind

theorem back_again {a0 a1 b0 b1 xN xD : Int} (ha : 0 < a1) (hb : 0 < b1) (hx : xN * (a1 * b1) = xD * (a0 * b1 + b0 * a1)) :
    (xN * b1 - b0 * xD) * a1 = a0 * (xD * b1) := by
  refine Int.eq_of_mul_eq_mul_right (show b1 ≠ 0 by omega) ?_
  clear ha hb
  grind

theorem assoc {a0 a1 b0 b1 c0 c1 xN xD zN zD : Int} (ha : 0 < a1) (hb : 0 < b1) (hc : 0 < c1)
    (hx : xN * (a1 * b1) = xD * (a0 * b1 + b0 * a1)) (hz : zN * (b1 * c1) = zD * (b0 * c1 + c0 * b1)) :
    (xN * c1 + c0 * xD) * (a1 * zD) = (a0 * zD + zN * a1) * (xD * c1) := by
  refine Int.eq_of_mul_eq_mul_right (show b1 ≠ 0 by omega) ?_
  clear ha hb hc
  grind

end Go.Proofs.Ytmndiejojlmblaa
