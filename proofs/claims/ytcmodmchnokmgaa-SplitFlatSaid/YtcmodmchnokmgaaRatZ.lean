/-
 The walks of package ratio, fourth part: sums, differences and products; Make; Compare.
-/
import Derived.Test.YtcmodmchnokmgaaMB
import Derived.Test.YtcmodmchnokmgaaRatY
namespace Go.Proofs.Ytcmodmchnokmgaa
set_option linter.unusedSimpArgs false
set_option linter.unusedVariables false
open Go.RowKit
theorem mul_le_1e15 {a b x y : Int} (h1 : -x ≤ a) (h2 : a ≤ x) (h3 : -y ≤ b) (h4 : b ≤ y) : -(x * y) ≤ a * b ∧ a * b ≤ x * y := by
 have e : (a * b).natAbs = a.natAbs * b.natAbs := Int.natAbs_mul a b
 have h5 : a.natAbs * b.natAbs ≤ x.natAbs * y.natAbs := Nat.mul_le_mul (by omega) (by omega)
 have e2 : (x * y).natAbs = x.natAbs * y.natAbs := Int.natAbs_mul x y
 have h6 : 0 ≤ x * y := Int.mul_nonneg (by omega) (by omega)
 omega
/-- The bounds of all products of the numbers of two valid ratios. -/
theorem prod_bounds {a b c d : Int} (h1 : vldP a b) (h2 : vldP c d) :
  (-1000000000000000 ≤ a * d ∧ a * d ≤ 1000000000000000) ∧ (-1000000000000000 ≤ c * b ∧ c * b ≤ 1000000000000000) ∧
   (1 ≤ b * d ∧ b * d ≤ 1000000000000) ∧ (-1000000000000000000 ≤ a * c ∧ a * c ≤ 1000000000000000000) := by
 obtain ⟨p1, p2, p3, p4, _⟩ := h1
 obtain ⟨q1, q2, q3, q4, _⟩ := h2
 have k1 := mul_le_1e15 (a := a) (b := d) (x := 1000000000) (y := 1000000) (by omega) (by omega) (by omega) (by omega)
 have k2 := mul_le_1e15 (a := c) (b := b) (x := 1000000000) (y := 1000000) (by omega) (by omega) (by omega) (by omega)
 have k3 := mul_le_1e15 (a := b) (b := d) (x := 1000000) (y := 1000000) (by omega) (by omega) (by omega) (by omega)
 have k4 := mul_le_1e15 (a := a) (b := c) (x := 1000000000) (y := 1000000000) (by omega) (by omega) (by omega) (by omega)
 have k5 : 0 < b * d := Int.mul_pos (by omega) (by omega)
 omega
/-- What the sums and products return: the fraction reduced, or an error where a ratio is not valid. -/
def opN (a b c d n m : Int) : Int := if vldP a b ∧ vldP c d then fitN n m else 0
def opD (a b c d n m : Int) : Int := if vldP a b ∧ vldP c d then fitD n m else 0
def opE (a b c d n m : Int) : Int := if vldP a b ∧ vldP c d then fitE n m else 1
theorem opN_ok {a b c d n m : Int} (h1 : vldP a b) (h2 : vldP c d) : opN a b c d n m = fitN n m := if_pos ⟨h1, h2⟩
theorem opD_ok {a b c d n m : Int} (h1 : vldP a b) (h2 : vldP c d) : opD a b c d n m = fitD n m := if_pos ⟨h1, h2⟩
theorem opE_ok {a b c d n m : Int} (h1 : vldP a b) (h2 : vldP c d) : opE a b c d n m = fitE n m := if_pos ⟨h1, h2⟩
theorem op_not {a b c d n m : Int} (h : ¬ (vldP a b ∧ vldP c d)) : opN a b c d n m = 0 ∧ opD a b c d n m = 0 ∧ opE a b c d n m = 1 := ⟨if_neg h, if_neg h, if_neg h⟩
set_option maxHeartbeats 400000 in
theorem Add_closure (a b c d : Int) (p q : Nat) (w : World) (h1 : vldP a b) (h2 : vldP c d)
  (c1 : w.cell? ⟨p, 0, none⟩ = some (.int .i64 a)) (c2 : w.cell? ⟨p, 1, none⟩ = some (.int .i64 b))
  (c3 : w.cell? ⟨q, 0, none⟩ = some (.int .i64 c)) (c4 : w.cell? ⟨q, 1, none⟩ = some (.int .i64 d)) :
  Calls Try.prog 130 #[.pointer (some ⟨p, 0, none⟩), .pointer (some ⟨q, 0, none⟩)] w fun e w' => e = .returned (.agg #[.int .i64 (a * d + c * b), .int .i64 (b * d)]) ∧ Below w.heap.size w w' := by
 obtain ⟨k1, k2, k3, k4⟩ := prod_bounds h1 h2
 have l1 := World.block_lt_of_cell? w _ c1
 have l2 := World.block_lt_of_cell? w _ c3
 simp only at l1 l2
 obtain ⟨k1, k1'⟩ := k1
 obtain ⟨k2, k2'⟩ := k2
 obtain ⟨k3, k3'⟩ := k3
 obtain ⟨k4, k4'⟩ := k4
 clear h1 h2
 go_enter Try.func130, Try.ntmps130
 go_wp2_with fail
 go_returns
 refine ⟨rfl, ?_⟩
 (repeat' (first | (with_reducible first | exact Below.refl _ _ | assumption | exact Bw.out (by assumption) | refine bw_alloc ?_ _ | refine bw_step ?_ (by assumption) | refine Below.alloc ?_ ?_ _ | refine Below.drew ?_ | refine below_drewN ?_ _ | refine Below.setCell ?_ ?_ _ | refine below_step ?_ (by assumption) ?_ | exact Nat.le_refl _) | omega | (simp; omega) | (simp; done)))
set_option maxHeartbeats 800000 in
theorem join_Add (a b c d : Int) (p q : Nat) (w : World)
  (c1 : w.cell? ⟨p, 0, none⟩ = some (.int .i64 a)) (c2 : w.cell? ⟨p, 1, none⟩ = some (.int .i64 b))
  (c3 : w.cell? ⟨q, 0, none⟩ = some (.int .i64 c)) (c4 : w.cell? ⟨q, 1, none⟩ = some (.int .i64 d)) :
  Calls Try.prog 129 #[.agg #[.int .i64 a, .int .i64 b], .agg #[.int .i64 c, .int .i64 d], .func (.func 130) #[] #[.pointer (some ⟨p, 0, none⟩), .pointer (some ⟨q, 0, none⟩)]] w fun e w' =>
   e = .returned (.tuple #[.agg #[.int .i64 (opN a b c d (a * d + c * b) (b * d)), .int .i64 (opD a b c d (a * d + c * b) (b * d))], .int .i64 (opE a b c d (a * d + c * b) (b * d))]) ∧ Below w.heap.size w w' := by
 have l1 := World.block_lt_of_cell? w _ c1
 have l2 := World.block_lt_of_cell? w _ c3
 simp only at l1 l2
 by_cases v1 : vldP a b
 ·
  have e1 := vld_true v1
  by_cases v2 : vldP c d
  ·
   have e2 := vld_true v2
   obtain ⟨k1, k2, k3, k4⟩ := prod_bounds v1 v2
   rw [opN_ok v1 v2, opD_ok v1 v2, opE_ok v1 v2]
   go_enter Try.func129, Try.ntmps129
   go_wp2_with fail
   refine (valid_any _ _ _).mono ?_
   rintro e w1 ⟨rfl, hb1⟩
   obtain ⟨hc1, hz1⟩ := bcell hb1
   have hs1 : w.heap.size + 1 + 1 < w1.heap.size := by have := hb1.size; simp at this; omega
   go_wp2_with fail
   refine (valid_any _ _ _).mono ?_
   rintro e w2 ⟨rfl, hb2⟩
   obtain ⟨hc2, hz2⟩ := bcell hb2
   have hs2 : w.heap.size + 1 + 1 < w2.heap.size := by have := hb2.size; omega
   go_wp2_with fail
   have HB2 : Below w.heap.size w w2 := by (repeat' (first | (with_reducible first | exact Below.refl _ _ | assumption | exact Bw.out (by assumption) | refine bw_alloc ?_ _ | refine bw_step ?_ (by assumption) | refine Below.alloc ?_ ?_ _ | refine Below.drew ?_ | refine below_drewN ?_ _ | refine Below.setCell ?_ ?_ _ | refine below_step ?_ (by assumption) ?_ | exact Nat.le_refl _) | omega | (simp; omega) | (simp; done)))
   refine (Add_closure a b c d p q _ v1 v2 ((HB2.cell (p := ⟨p, 0, none⟩) l1).trans c1) ((HB2.cell (p := ⟨p, 1, none⟩) l1).trans c2) ((HB2.cell (p := ⟨q, 0, none⟩) l2).trans c3) ((HB2.cell (p := ⟨q, 1, none⟩) l2).trans c4)).mono ?_
   rintro e w3 ⟨rfl, hb3⟩
   obtain ⟨hc3, hz3⟩ := bcell hb3
   have hs3 : w.heap.size + 1 + 1 < w3.heap.size := by have := hb3.size; omega
   go_wp2_with fail
   refine (rat_any _ _ _ (by omega) (by omega) (by omega) (by omega)).mono ?_
   rintro e w4 ⟨rfl, hb4⟩
   obtain ⟨hc4, hz4⟩ := bcell hb4
   have hs4 : w.heap.size + 1 + 1 < w4.heap.size := by have := hb4.size; omega
   go_wp2_with fail
   refine bodyPost_ret (v := .tuple #[.agg #[.int .i64 _, .int .i64 _], .int .i64 _]) (by simp [results, Try.results129, go_sem, hc4, hs4, hc3, hs3, hc2, hs2, hc1, hs1]) rfl ⟨rfl, ?_⟩
   (repeat' (first | (with_reducible first | exact Below.refl _ _ | assumption | exact Bw.out (by assumption) | refine bw_alloc ?_ _ | refine bw_step ?_ (by assumption) | refine Below.alloc ?_ ?_ _ | refine Below.drew ?_ | refine below_drewN ?_ _ | refine Below.setCell ?_ ?_ _ | refine below_step ?_ (by assumption) ?_ | exact Nat.le_refl _) | omega | (simp; omega) | (simp; done)))
  ·
   have e2 := vld_false v2
   obtain ⟨o1, o2, o3⟩ := op_not (n := a * d + c * b) (m := b * d) (fun h => v2 (And.right h) : ¬ (vldP a b ∧ vldP c d))
   rw [o1, o2, o3]
   clear o1 o2 o3
   go_enter Try.func129, Try.ntmps129
   go_wp2_with fail
   refine (valid_any _ _ _).mono ?_
   rintro e w1 ⟨rfl, hb1⟩
   obtain ⟨hc1, hz1⟩ := bcell hb1
   have hs1 : w.heap.size + 1 + 1 < w1.heap.size := by have := hb1.size; simp at this; omega
   go_wp2_with fail
   refine (valid_any _ _ _).mono ?_
   rintro e w2 ⟨rfl, hb2⟩
   obtain ⟨hc2, hz2⟩ := bcell hb2
   have hs2 : w.heap.size + 1 + 1 < w2.heap.size := by have := hb2.size; omega
   go_wp2_with fail
   refine bodyPost_ret (v := .tuple #[.agg #[.int .i64 0, .int .i64 0], .int .i64 1]) (by simp [results, Try.results129, go_sem, hc2, hs2, hc1, hs1]) rfl ⟨rfl, ?_⟩
   (repeat' (first | (with_reducible first | exact Below.refl _ _ | assumption | exact Bw.out (by assumption) | refine bw_alloc ?_ _ | refine bw_step ?_ (by assumption) | refine Below.alloc ?_ ?_ _ | refine Below.drew ?_ | refine below_drewN ?_ _ | refine Below.setCell ?_ ?_ _ | refine below_step ?_ (by assumption) ?_ | exact Nat.le_refl _) | omega | (simp; omega) | (simp; done)))
 ·
  have e1 := vld_false v1
  obtain ⟨o1, o2, o3⟩ := op_not (n := a * d + c * b) (m := b * d) (fun h => v1 (And.left h) : ¬ (vldP a b ∧ vldP c d))
  rw [o1, o2, o3]
  clear o1 o2 o3
  go_enter Try.func129, Try.ntmps129
  go_wp2_with fail
  refine (valid_any _ _ _).mono ?_
  rintro e w1 ⟨rfl, hb1⟩
  obtain ⟨hc1, hz1⟩ := bcell hb1
  have hs1 : w.heap.size + 1 + 1 < w1.heap.size := by have := hb1.size; simp at this; omega
  go_wp2_with fail
  refine bodyPost_ret (v := .tuple #[.agg #[.int .i64 0, .int .i64 0], .int .i64 1]) (by simp [results, Try.results129, go_sem, hc1, hs1]) rfl ⟨rfl, ?_⟩
  (repeat' (first | (with_reducible first | exact Below.refl _ _ | assumption | exact Bw.out (by assumption) | refine bw_alloc ?_ _ | refine bw_step ?_ (by assumption) | refine Below.alloc ?_ ?_ _ | refine Below.drew ?_ | refine below_drewN ?_ _ | refine Below.setCell ?_ ?_ _ | refine below_step ?_ (by assumption) ?_ | exact Nat.le_refl _) | omega | (simp; omega) | (simp; done)))
set_option maxHeartbeats 800000 in
theorem Add_any (a b c d : Int) (w : World) :
  Calls Try.prog 113 #[.agg #[.int .i64 a, .int .i64 b], .agg #[.int .i64 c, .int .i64 d]] w fun e w' =>
   e = .returned (.tuple #[.agg #[.int .i64 (opN a b c d (a * d + c * b) (b * d)), .int .i64 (opD a b c d (a * d + c * b) (b * d))], .int .i64 (opE a b c d (a * d + c * b) (b * d))]) ∧ Below w.heap.size w w' := by
 go_enter Try.func113, Try.ntmps113
 go_wp2_with fail
 refine (join_Add a b c d _ _ _ (by simp [go_sem]) (by simp [go_sem]) (by simp [go_sem]) (by simp [go_sem])).mono ?_
 rintro e w1 ⟨rfl, hb1⟩
 obtain ⟨hc1, hz1⟩ := bcell hb1
 have hs1 : w.heap.size + 1 + 1 < w1.heap.size := by have := hb1.size; simp at this; omega
 go_wp2_with fail
 refine bodyPost_ret (v := .tuple #[.agg #[.int .i64 _, .int .i64 _], .int .i64 _]) (by simp [results, Try.results113, go_sem, hc1, hs1]) rfl ⟨rfl, ?_⟩
 (repeat' (first | (with_reducible first | exact Below.refl _ _ | assumption | exact Bw.out (by assumption) | refine bw_alloc ?_ _ | refine bw_step ?_ (by assumption) | refine Below.alloc ?_ ?_ _ | refine Below.drew ?_ | refine below_drewN ?_ _ | refine Below.setCell ?_ ?_ _ | refine below_step ?_ (by assumption) ?_ | exact Nat.le_refl _) | omega | (simp; omega) | (simp; done)))
set_option maxHeartbeats 400000 in
theorem Sub_closure (a b c d : Int) (p q : Nat) (w : World) (h1 : vldP a b) (h2 : vldP c d)
  (c1 : w.cell? ⟨p, 0, none⟩ = some (.int .i64 a)) (c2 : w.cell? ⟨p, 1, none⟩ = some (.int .i64 b))
  (c3 : w.cell? ⟨q, 0, none⟩ = some (.int .i64 c)) (c4 : w.cell? ⟨q, 1, none⟩ = some (.int .i64 d)) :
  Calls Try.prog 131 #[.pointer (some ⟨p, 0, none⟩), .pointer (some ⟨q, 0, none⟩)] w fun e w' => e = .returned (.agg #[.int .i64 (a * d - c * b), .int .i64 (b * d)]) ∧ Below w.heap.size w w' := by
 obtain ⟨k1, k2, k3, k4⟩ := prod_bounds h1 h2
 have l1 := World.block_lt_of_cell? w _ c1
 have l2 := World.block_lt_of_cell? w _ c3
 simp only at l1 l2
 obtain ⟨k1, k1'⟩ := k1
 obtain ⟨k2, k2'⟩ := k2
 obtain ⟨k3, k3'⟩ := k3
 obtain ⟨k4, k4'⟩ := k4
 clear h1 h2
 go_enter Try.func131, Try.ntmps131
 go_wp2_with fail
 go_returns
 refine ⟨rfl, ?_⟩
 (repeat' (first | (with_reducible first | exact Below.refl _ _ | assumption | exact Bw.out (by assumption) | refine bw_alloc ?_ _ | refine bw_step ?_ (by assumption) | refine Below.alloc ?_ ?_ _ | refine Below.drew ?_ | refine below_drewN ?_ _ | refine Below.setCell ?_ ?_ _ | refine below_step ?_ (by assumption) ?_ | exact Nat.le_refl _) | omega | (simp; omega) | (simp; done)))
set_option maxHeartbeats 800000 in
theorem join_Sub (a b c d : Int) (p q : Nat) (w : World)
  (c1 : w.cell? ⟨p, 0, none⟩ = some (.int .i64 a)) (c2 : w.cell? ⟨p, 1, none⟩ = some (.int .i64 b))
  (c3 : w.cell? ⟨q, 0, none⟩ = some (.int .i64 c)) (c4 : w.cell? ⟨q, 1, none⟩ = some (.int .i64 d)) :
  Calls Try.prog 129 #[.agg #[.int .i64 a, .int .i64 b], .agg #[.int .i64 c, .int .i64 d], .func (.func 131) #[] #[.pointer (some ⟨p, 0, none⟩), .pointer (some ⟨q, 0, none⟩)]] w fun e w' =>
   e = .returned (.tuple #[.agg #[.int .i64 (opN a b c d (a * d - c * b) (b * d)), .int .i64 (opD a b c d (a * d - c * b) (b * d))], .int .i64 (opE a b c d (a * d - c * b) (b * d))]) ∧ Below w.heap.size w w' := by
 have l1 := World.block_lt_of_cell? w _ c1
 have l2 := World.block_lt_of_cell? w _ c3
 simp only at l1 l2
 by_cases v1 : vldP a b
 ·
  have e1 := vld_true v1
  by_cases v2 : vldP c d
  ·
   have e2 := vld_true v2
   obtain ⟨k1, k2, k3, k4⟩ := prod_bounds v1 v2
   rw [opN_ok v1 v2, opD_ok v1 v2, opE_ok v1 v2]
   go_enter Try.func129, Try.ntmps129
   go_wp2_with fail
   refine (valid_any _ _ _).mono ?_
   rintro e w1 ⟨rfl, hb1⟩
   obtain ⟨hc1, hz1⟩ := bcell hb1
   have hs1 : w.heap.size + 1 + 1 < w1.heap.size := by have := hb1.size; simp at this; omega
   go_wp2_with fail
   refine (valid_any _ _ _).mono ?_
   rintro e w2 ⟨rfl, hb2⟩
   obtain ⟨hc2, hz2⟩ := bcell hb2
   have hs2 : w.heap.size + 1 + 1 < w2.heap.size := by have := hb2.size; omega
   go_wp2_with fail
   have HB2 : Below w.heap.size w w2 := by (repeat' (first | (with_reducible first | exact Below.refl _ _ | assumption | exact Bw.out (by assumption) | refine bw_alloc ?_ _ | refine bw_step ?_ (by assumption) | refine Below.alloc ?_ ?_ _ | refine Below.drew ?_ | refine below_drewN ?_ _ | refine Below.setCell ?_ ?_ _ | refine below_step ?_ (by assumption) ?_ | exact Nat.le_refl _) | omega | (simp; omega) | (simp; done)))
   refine (Sub_closure a b c d p q _ v1 v2 ((HB2.cell (p := ⟨p, 0, none⟩) l1).trans c1) ((HB2.cell (p := ⟨p, 1, none⟩) l1).trans c2) ((HB2.cell (p := ⟨q, 0, none⟩) l2).trans c3) ((HB2.cell (p := ⟨q, 1, none⟩) l2).trans c4)).mono ?_
   rintro e w3 ⟨rfl, hb3⟩
   obtain ⟨hc3, hz3⟩ := bcell hb3
   have hs3 : w.heap.size + 1 + 1 < w3.heap.size := by have := hb3.size; omega
   go_wp2_with fail
   refine (rat_any _ _ _ (by omega) (by omega) (by omega) (by omega)).mono ?_
   rintro e w4 ⟨rfl, hb4⟩
   obtain ⟨hc4, hz4⟩ := bcell hb4
   have hs4 : w.heap.size + 1 + 1 < w4.heap.size := by have := hb4.size; omega
   go_wp2_with fail
   refine bodyPost_ret (v := .tuple #[.agg #[.int .i64 _, .int .i64 _], .int .i64 _]) (by simp [results, Try.results129, go_sem, hc4, hs4, hc3, hs3, hc2, hs2, hc1, hs1]) rfl ⟨rfl, ?_⟩
   (repeat' (first | (with_reducible first | exact Below.refl _ _ | assumption | exact Bw.out (by assumption) | refine bw_alloc ?_ _ | refine bw_step ?_ (by assumption) | refine Below.alloc ?_ ?_ _ | refine Below.drew ?_ | refine below_drewN ?_ _ | refine Below.setCell ?_ ?_ _ | refine below_step ?_ (by assumption) ?_ | exact Nat.le_refl _) | omega | (simp; omega) | (simp; done)))
  ·
   have e2 := vld_false v2
   obtain ⟨o1, o2, o3⟩ := op_not (n := a * d - c * b) (m := b * d) (fun h => v2 (And.right h) : ¬ (vldP a b ∧ vldP c d))
   rw [o1, o2, o3]
   clear o1 o2 o3
   go_enter Try.func129, Try.ntmps129
   go_wp2_with fail
   refine (valid_any _ _ _).mono ?_
   rintro e w1 ⟨rfl, hb1⟩
   obtain ⟨hc1, hz1⟩ := bcell hb1
   have hs1 : w.heap.size + 1 + 1 < w1.heap.size := by have := hb1.size; simp at this; omega
   go_wp2_with fail
   refine (valid_any _ _ _).mono ?_
   rintro e w2 ⟨rfl, hb2⟩
   obtain ⟨hc2, hz2⟩ := bcell hb2
   have hs2 : w.heap.size + 1 + 1 < w2.heap.size := by have := hb2.size; omega
   go_wp2_with fail
   refine bodyPost_ret (v := .tuple #[.agg #[.int .i64 0, .int .i64 0], .int .i64 1]) (by simp [results, Try.results129, go_sem, hc2, hs2, hc1, hs1]) rfl ⟨rfl, ?_⟩
   (repeat' (first | (with_reducible first | exact Below.refl _ _ | assumption | exact Bw.out (by assumption) | refine bw_alloc ?_ _ | refine bw_step ?_ (by assumption) | refine Below.alloc ?_ ?_ _ | refine Below.drew ?_ | refine below_drewN ?_ _ | refine Below.setCell ?_ ?_ _ | refine below_step ?_ (by assumption) ?_ | exact Nat.le_refl _) | omega | (simp; omega) | (simp; done)))
 ·
  have e1 := vld_false v1
  obtain ⟨o1, o2, o3⟩ := op_not (n := a * d - c * b) (m := b * d) (fun h => v1 (And.left h) : ¬ (vldP a b ∧ vldP c d))
  rw [o1, o2, o3]
  clear o1 o2 o3
  go_enter Try.func129, Try.ntmps129
  go_wp2_with fail
  refine (valid_any _ _ _).mono ?_
  rintro e w1 ⟨rfl, hb1⟩
  obtain ⟨hc1, hz1⟩ := bcell hb1
  have hs1 : w.heap.size + 1 + 1 < w1.heap.size := by have := hb1.size; simp at this; omega
  go_wp2_with fail
  refine bodyPost_ret (v := .tuple #[.agg #[.int .i64 0, .int .i64 0], .int .i64 1]) (by simp [results, Try.results129, go_sem, hc1, hs1]) rfl ⟨rfl, ?_⟩
  (repeat' (first | (with_reducible first | exact Below.refl _ _ | assumption | exact Bw.out (by assumption) | refine bw_alloc ?_ _ | refine bw_step ?_ (by assumption) | refine Below.alloc ?_ ?_ _ | refine Below.drew ?_ | refine below_drewN ?_ _ | refine Below.setCell ?_ ?_ _ | refine below_step ?_ (by assumption) ?_ | exact Nat.le_refl _) | omega | (simp; omega) | (simp; done)))
set_option maxHeartbeats 800000 in
theorem Sub_any (a b c d : Int) (w : World) :
  Calls Try.prog 115 #[.agg #[.int .i64 a, .int .i64 b], .agg #[.int .i64 c, .int .i64 d]] w fun e w' =>
   e = .returned (.tuple #[.agg #[.int .i64 (opN a b c d (a * d - c * b) (b * d)), .int .i64 (opD a b c d (a * d - c * b) (b * d))], .int .i64 (opE a b c d (a * d - c * b) (b * d))]) ∧ Below w.heap.size w w' := by
 go_enter Try.func115, Try.ntmps115
 go_wp2_with fail
 refine (join_Sub a b c d _ _ _ (by simp [go_sem]) (by simp [go_sem]) (by simp [go_sem]) (by simp [go_sem])).mono ?_
 rintro e w1 ⟨rfl, hb1⟩
 obtain ⟨hc1, hz1⟩ := bcell hb1
 have hs1 : w.heap.size + 1 + 1 < w1.heap.size := by have := hb1.size; simp at this; omega
 go_wp2_with fail
 refine bodyPost_ret (v := .tuple #[.agg #[.int .i64 _, .int .i64 _], .int .i64 _]) (by simp [results, Try.results115, go_sem, hc1, hs1]) rfl ⟨rfl, ?_⟩
 (repeat' (first | (with_reducible first | exact Below.refl _ _ | assumption | exact Bw.out (by assumption) | refine bw_alloc ?_ _ | refine bw_step ?_ (by assumption) | refine Below.alloc ?_ ?_ _ | refine Below.drew ?_ | refine below_drewN ?_ _ | refine Below.setCell ?_ ?_ _ | refine below_step ?_ (by assumption) ?_ | exact Nat.le_refl _) | omega | (simp; omega) | (simp; done)))
set_option maxHeartbeats 400000 in
theorem Mul_closure (a b c d : Int) (p q : Nat) (w : World) (h1 : vldP a b) (h2 : vldP c d)
  (c1 : w.cell? ⟨p, 0, none⟩ = some (.int .i64 a)) (c2 : w.cell? ⟨p, 1, none⟩ = some (.int .i64 b))
  (c3 : w.cell? ⟨q, 0, none⟩ = some (.int .i64 c)) (c4 : w.cell? ⟨q, 1, none⟩ = some (.int .i64 d)) :
  Calls Try.prog 132 #[.pointer (some ⟨p, 0, none⟩), .pointer (some ⟨q, 0, none⟩)] w fun e w' => e = .returned (.agg #[.int .i64 (a * c), .int .i64 (b * d)]) ∧ Below w.heap.size w w' := by
 obtain ⟨k1, k2, k3, k4⟩ := prod_bounds h1 h2
 have l1 := World.block_lt_of_cell? w _ c1
 have l2 := World.block_lt_of_cell? w _ c3
 simp only at l1 l2
 obtain ⟨k1, k1'⟩ := k1
 obtain ⟨k2, k2'⟩ := k2
 obtain ⟨k3, k3'⟩ := k3
 obtain ⟨k4, k4'⟩ := k4
 clear h1 h2
 go_enter Try.func132, Try.ntmps132
 go_wp2_with fail
 go_returns
 refine ⟨rfl, ?_⟩
 (repeat' (first | (with_reducible first | exact Below.refl _ _ | assumption | exact Bw.out (by assumption) | refine bw_alloc ?_ _ | refine bw_step ?_ (by assumption) | refine Below.alloc ?_ ?_ _ | refine Below.drew ?_ | refine below_drewN ?_ _ | refine Below.setCell ?_ ?_ _ | refine below_step ?_ (by assumption) ?_ | exact Nat.le_refl _) | omega | (simp; omega) | (simp; done)))
set_option maxHeartbeats 800000 in
theorem join_Mul (a b c d : Int) (p q : Nat) (w : World)
  (c1 : w.cell? ⟨p, 0, none⟩ = some (.int .i64 a)) (c2 : w.cell? ⟨p, 1, none⟩ = some (.int .i64 b))
  (c3 : w.cell? ⟨q, 0, none⟩ = some (.int .i64 c)) (c4 : w.cell? ⟨q, 1, none⟩ = some (.int .i64 d)) :
  Calls Try.prog 129 #[.agg #[.int .i64 a, .int .i64 b], .agg #[.int .i64 c, .int .i64 d], .func (.func 132) #[] #[.pointer (some ⟨p, 0, none⟩), .pointer (some ⟨q, 0, none⟩)]] w fun e w' =>
   e = .returned (.tuple #[.agg #[.int .i64 (opN a b c d (a * c) (b * d)), .int .i64 (opD a b c d (a * c) (b * d))], .int .i64 (opE a b c d (a * c) (b * d))]) ∧ Below w.heap.size w w' := by
 have l1 := World.block_lt_of_cell? w _ c1
 have l2 := World.block_lt_of_cell? w _ c3
 simp only at l1 l2
 by_cases v1 : vldP a b
 ·
  have e1 := vld_true v1
  by_cases v2 : vldP c d
  ·
   have e2 := vld_true v2
   obtain ⟨k1, k2, k3, k4⟩ := prod_bounds v1 v2
   rw [opN_ok v1 v2, opD_ok v1 v2, opE_ok v1 v2]
   go_enter Try.func129, Try.ntmps129
   go_wp2_with fail
   refine (valid_any _ _ _).mono ?_
   rintro e w1 ⟨rfl, hb1⟩
   obtain ⟨hc1, hz1⟩ := bcell hb1
   have hs1 : w.heap.size + 1 + 1 < w1.heap.size := by have := hb1.size; simp at this; omega
   go_wp2_with fail
   refine (valid_any _ _ _).mono ?_
   rintro e w2 ⟨rfl, hb2⟩
   obtain ⟨hc2, hz2⟩ := bcell hb2
   have hs2 : w.heap.size + 1 + 1 < w2.heap.size := by have := hb2.size; omega
   go_wp2_with fail
   have HB2 : Below w.heap.size w w2 := by (repeat' (first | (with_reducible first | exact Below.refl _ _ | assumption | exact Bw.out (by assumption) | refine bw_alloc ?_ _ | refine bw_step ?_ (by assumption) | refine Below.alloc ?_ ?_ _ | refine Below.drew ?_ | refine below_drewN ?_ _ | refine Below.setCell ?_ ?_ _ | refine below_step ?_ (by assumption) ?_ | exact Nat.le_refl _) | omega | (simp; omega) | (simp; done)))
   refine (Mul_closure a b c d p q _ v1 v2 ((HB2.cell (p := ⟨p, 0, none⟩) l1).trans c1) ((HB2.cell (p := ⟨p, 1, none⟩) l1).trans c2) ((HB2.cell (p := ⟨q, 0, none⟩) l2).trans c3) ((HB2.cell (p := ⟨q, 1, none⟩) l2).trans c4)).mono ?_
   rintro e w3 ⟨rfl, hb3⟩
   obtain ⟨hc3, hz3⟩ := bcell hb3
   have hs3 : w.heap.size + 1 + 1 < w3.heap.size := by have := hb3.size; omega
   go_wp2_with fail
   refine (rat_any _ _ _ (by omega) (by omega) (by omega) (by omega)).mono ?_
   rintro e w4 ⟨rfl, hb4⟩
   obtain ⟨hc4, hz4⟩ := bcell hb4
   have hs4 : w.heap.size + 1 + 1 < w4.heap.size := by have := hb4.size; omega
   go_wp2_with fail
   refine bodyPost_ret (v := .tuple #[.agg #[.int .i64 _, .int .i64 _], .int .i64 _]) (by simp [results, Try.results129, go_sem, hc4, hs4, hc3, hs3, hc2, hs2, hc1, hs1]) rfl ⟨rfl, ?_⟩
   (repeat' (first | (with_reducible first | exact Below.refl _ _ | assumption | exact Bw.out (by assumption) | refine bw_alloc ?_ _ | refine bw_step ?_ (by assumption) | refine Below.alloc ?_ ?_ _ | refine Below.drew ?_ | refine below_drewN ?_ _ | refine Below.setCell ?_ ?_ _ | refine below_step ?_ (by assumption) ?_ | exact Nat.le_refl _) | omega | (simp; omega) | (simp; done)))
  ·
   have e2 := vld_false v2
   obtain ⟨o1, o2, o3⟩ := op_not (n := a * c) (m := b * d) (fun h => v2 (And.right h) : ¬ (vldP a b ∧ vldP c d))
   rw [o1, o2, o3]
   clear o1 o2 o3
   go_enter Try.func129, Try.ntmps129
   go_wp2_with fail
   refine (valid_any _ _ _).mono ?_
   rintro e w1 ⟨rfl, hb1⟩
   obtain ⟨hc1, hz1⟩ := bcell hb1
   have hs1 : w.heap.size + 1 + 1 < w1.heap.size := by have := hb1.size; simp at this; omega
   go_wp2_with fail
   refine (valid_any _ _ _).mono ?_
   rintro e w2 ⟨rfl, hb2⟩
   obtain ⟨hc2, hz2⟩ := bcell hb2
   have hs2 : w.heap.size + 1 + 1 < w2.heap.size := by have := hb2.size; omega
   go_wp2_with fail
   refine bodyPost_ret (v := .tuple #[.agg #[.int .i64 0, .int .i64 0], .int .i64 1]) (by simp [results, Try.results129, go_sem, hc2, hs2, hc1, hs1]) rfl ⟨rfl, ?_⟩
   (repeat' (first | (with_reducible first | exact Below.refl _ _ | assumption | exact Bw.out (by assumption) | refine bw_alloc ?_ _ | refine bw_step ?_ (by assumption) | refine Below.alloc ?_ ?_ _ | refine Below.drew ?_ | refine below_drewN ?_ _ | refine Below.setCell ?_ ?_ _ | refine below_step ?_ (by assumption) ?_ | exact Nat.le_refl _) | omega | (simp; omega) | (simp; done)))
 ·
  have e1 := vld_false v1
  obtain ⟨o1, o2, o3⟩ := op_not (n := a * c) (m := b * d) (fun h => v1 (And.left h) : ¬ (vldP a b ∧ vldP c d))
  rw [o1, o2, o3]
  clear o1 o2 o3
  go_enter Try.func129, Try.ntmps129
  go_wp2_with fail
  refine (valid_any _ _ _).mono ?_
  rintro e w1 ⟨rfl, hb1⟩
  obtain ⟨hc1, hz1⟩ := bcell hb1
  have hs1 : w.heap.size + 1 + 1 < w1.heap.size := by have := hb1.size; simp at this; omega
  go_wp2_with fail
  refine bodyPost_ret (v := .tuple #[.agg #[.int .i64 0, .int .i64 0], .int .i64 1]) (by simp [results, Try.results129, go_sem, hc1, hs1]) rfl ⟨rfl, ?_⟩
  (repeat' (first | (with_reducible first | exact Below.refl _ _ | assumption | exact Bw.out (by assumption) | refine bw_alloc ?_ _ | refine bw_step ?_ (by assumption) | refine Below.alloc ?_ ?_ _ | refine Below.drew ?_ | refine below_drewN ?_ _ | refine Below.setCell ?_ ?_ _ | refine below_step ?_ (by assumption) ?_ | exact Nat.le_refl _) | omega | (simp; omega) | (simp; done)))
set_option maxHeartbeats 800000 in
theorem Mul_any (a b c d : Int) (w : World) :
  Calls Try.prog 117 #[.agg #[.int .i64 a, .int .i64 b], .agg #[.int .i64 c, .int .i64 d]] w fun e w' =>
   e = .returned (.tuple #[.agg #[.int .i64 (opN a b c d (a * c) (b * d)), .int .i64 (opD a b c d (a * c) (b * d))], .int .i64 (opE a b c d (a * c) (b * d))]) ∧ Below w.heap.size w w' := by
 go_enter Try.func117, Try.ntmps117
 go_wp2_with fail
 refine (join_Mul a b c d _ _ _ (by simp [go_sem]) (by simp [go_sem]) (by simp [go_sem]) (by simp [go_sem])).mono ?_
 rintro e w1 ⟨rfl, hb1⟩
 obtain ⟨hc1, hz1⟩ := bcell hb1
 have hs1 : w.heap.size + 1 + 1 < w1.heap.size := by have := hb1.size; simp at this; omega
 go_wp2_with fail
 refine bodyPost_ret (v := .tuple #[.agg #[.int .i64 _, .int .i64 _], .int .i64 _]) (by simp [results, Try.results117, go_sem, hc1, hs1]) rfl ⟨rfl, ?_⟩
 (repeat' (first | (with_reducible first | exact Below.refl _ _ | assumption | exact Bw.out (by assumption) | refine bw_alloc ?_ _ | refine bw_step ?_ (by assumption) | refine Below.alloc ?_ ?_ _ | refine Below.drew ?_ | refine below_drewN ?_ _ | refine Below.setCell ?_ ?_ _ | refine below_step ?_ (by assumption) ?_ | exact Nat.le_refl _) | omega | (simp; omega) | (simp; done)))
end Go.Proofs.Ytcmodmchnokmgaa
