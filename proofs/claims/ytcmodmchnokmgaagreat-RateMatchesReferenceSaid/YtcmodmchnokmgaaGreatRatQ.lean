/-
 The walks of the reference implementation of ratios: each returns what the program's function returns.
-/
import Derived.Test.YtcmodmchnokmgaaGreatRatT
import Derived.Test.YtcmodmchnokmgaaGreatRatV
import Derived.Test.YtcmodmchnokmgaaGreatRatR
namespace Go.Proofs.YtcmodmchnokmgaaGreat
set_option linter.unusedSimpArgs false
set_option linter.unusedVariables false
open Go.RowKit
theorem absB {n : Int} (h : -1000000000 ≤ n ∧ n ≤ 1000000000) : absI n ≤ 1000000000 := absI_le h.1 h.2
set_option maxHeartbeats 1600000 in
theorem R_make0_pos (n d : Int) (w : World) (h1 : -2000000000000000000 ≤ n) (h2 : n ≤ 2000000000000000000) (h3 : 1 ≤ d) (h4 : -2000000000000000000 ≤ d) (h5 : d ≤ 2000000000000000000) :
  Calls Tryz.prog 75 #[.int .i64 n, .int .i64 d] w fun e w' => e = .returned (.tuple #[.agg #[.int .i64 (fitN (n) (d)), .int .i64 (fitD (n) (d))], .int .i64 (fitE (n) (d))]) ∧ Below w.heap.size w w' := by
 have hg1 := gI_pos (n := n) (d := d) (by omega)
 have hg2 := gI_le (n := n) (d := d) (by omega)
 have hp := rD_pos (n := n) (d := d) (by omega)
 have hl := rD_le (n := n) (d := d) (by omega)
 have hN := rN_bound (n := n) (d := d) (by omega)
 obtain ⟨hN1, hN2⟩ : -2000000000000000000 ≤ rN (n) (d) ∧ rN (n) (d) ≤ 2000000000000000000 := by omega
 clear hN
 have q1 : (n).tdiv (gI (n) (d)) = rN (n) (d) := rN_tdiv (n) (d)
 have q2 : (d) / gI (n) (d) = rD (n) (d) := rfl
 have q3 : (d).tdiv (gI (n) (d)) = rD (n) (d) := rD_tdiv (n) (d)
 by_cases f2 : rD (n) (d) ≤ 1000000
 ·
  by_cases f1 : -1000000000 ≤ rN (n) (d) ∧ rN (n) (d) ≤ 1000000000
  ·
   have hf : fitsP (n) (d) := ⟨f1.1, f1.2, f2⟩
   have g1 : fitN (n) (d) = rN (n) (d) := if_pos hf
   have g2 : fitD (n) (d) = rD (n) (d) := if_pos hf
   have g3 : fitE (n) (d) = 0 := if_pos hf
   rw [g1, g2, g3]
   have hb := absB f1
   clear g1 g2 g3 hf f1
   go_enter Tryz.func75, Tryz.ntmps75
   go_wp2_with (first | (go_at_call 107; refine (R_abs_any _ _ (by omega) (by omega)).mono ?_; rintro e w' ⟨rfl, rfl⟩) | (go_at_call 106; refine (R_gcd_abs _ _ _ (by omega) (by omega) (by omega) (by omega)).mono ?_; rintro e w' ⟨rfl, rfl⟩))
   go_region
   go_wp2_with (first | (go_at_call 107; refine (R_abs_any _ _ (by omega) (by omega)).mono ?_; rintro e w' ⟨rfl, rfl⟩) | (go_at_call 106; refine (R_gcd_abs _ _ _ (by omega) (by omega) (by omega) (by omega)).mono ?_; rintro e w' ⟨rfl, rfl⟩))
   go_returns
   refine ⟨rfl, ?_⟩
   (repeat' (first | (with_reducible first | exact Below.refl _ _ | assumption | exact Bw.out (by assumption) | refine bw_alloc ?_ _ | refine bw_step ?_ (by assumption) | refine Below.alloc ?_ ?_ _ | refine Below.drew ?_ | refine below_drewN ?_ _ | refine Below.setCell ?_ ?_ _ | refine below_step ?_ (by assumption) ?_ | exact Nat.le_refl _) | omega | (simp; omega) | (simp; done)))
  ·
   have hf : ¬ fitsP (n) (d) := fun h => f1 ⟨h.1, h.2.1⟩
   have g1 : fitN (n) (d) = 0 := if_neg hf
   have g2 : fitD (n) (d) = 0 := if_neg hf
   have g3 : fitE (n) (d) = 3 := if_neg hf
   rw [g1, g2, g3]
   have hb := absI_gt (m := 1000000000) (by omega) f1
   clear g1 g2 g3 hf f1
   go_enter Tryz.func75, Tryz.ntmps75
   go_wp2_with (first | (go_at_call 107; refine (R_abs_any _ _ (by omega) (by omega)).mono ?_; rintro e w' ⟨rfl, rfl⟩) | (go_at_call 106; refine (R_gcd_abs _ _ _ (by omega) (by omega) (by omega) (by omega)).mono ?_; rintro e w' ⟨rfl, rfl⟩))
   go_region
   go_wp2_with (first | (go_at_call 107; refine (R_abs_any _ _ (by omega) (by omega)).mono ?_; rintro e w' ⟨rfl, rfl⟩) | (go_at_call 106; refine (R_gcd_abs _ _ _ (by omega) (by omega) (by omega) (by omega)).mono ?_; rintro e w' ⟨rfl, rfl⟩))
   go_returns
   refine ⟨rfl, ?_⟩
   (repeat' (first | (with_reducible first | exact Below.refl _ _ | assumption | exact Bw.out (by assumption) | refine bw_alloc ?_ _ | refine bw_step ?_ (by assumption) | refine Below.alloc ?_ ?_ _ | refine Below.drew ?_ | refine below_drewN ?_ _ | refine Below.setCell ?_ ?_ _ | refine below_step ?_ (by assumption) ?_ | exact Nat.le_refl _) | omega | (simp; omega) | (simp; done)))
 ·
  have hf : ¬ fitsP (n) (d) := fun h => f2 h.2.2
  have g1 : fitN (n) (d) = 0 := if_neg hf
  have g2 : fitD (n) (d) = 0 := if_neg hf
  have g3 : fitE (n) (d) = 3 := if_neg hf
  rw [g1, g2, g3]
  have hb : 1000000 < rD (n) (d) := by omega
  clear g1 g2 g3 hf f2
  go_enter Tryz.func75, Tryz.ntmps75
  go_wp2_with (first | (go_at_call 107; refine (R_abs_any _ _ (by omega) (by omega)).mono ?_; rintro e w' ⟨rfl, rfl⟩) | (go_at_call 106; refine (R_gcd_abs _ _ _ (by omega) (by omega) (by omega) (by omega)).mono ?_; rintro e w' ⟨rfl, rfl⟩))
  go_region
  go_wp2_with (first | (go_at_call 107; refine (R_abs_any _ _ (by omega) (by omega)).mono ?_; rintro e w' ⟨rfl, rfl⟩) | (go_at_call 106; refine (R_gcd_abs _ _ _ (by omega) (by omega) (by omega) (by omega)).mono ?_; rintro e w' ⟨rfl, rfl⟩))
  go_returns
  refine ⟨rfl, ?_⟩
  (repeat' (first | (with_reducible first | exact Below.refl _ _ | assumption | exact Bw.out (by assumption) | refine bw_alloc ?_ _ | refine bw_step ?_ (by assumption) | refine Below.alloc ?_ ?_ _ | refine Below.drew ?_ | refine below_drewN ?_ _ | refine Below.setCell ?_ ?_ _ | refine below_step ?_ (by assumption) ?_ | exact Nat.le_refl _) | omega | (simp; omega) | (simp; done)))
set_option maxHeartbeats 1600000 in
theorem R_make0_neg (n d : Int) (w : World) (h1 : -2000000000000000000 ≤ n) (h2 : n ≤ 2000000000000000000) (h3 : d ≤ -1) (h4 : -2000000000000000000 ≤ d) (h5 : d ≤ 2000000000000000000) :
  Calls Tryz.prog 75 #[.int .i64 n, .int .i64 d] w fun e w' => e = .returned (.tuple #[.agg #[.int .i64 (fitN (-n) (-d)), .int .i64 (fitD (-n) (-d))], .int .i64 (fitE (-n) (-d))]) ∧ Below w.heap.size w w' := by
 have hg1 := gI_pos (n := -n) (d := -d) (by omega)
 have hg2 := gI_le (n := -n) (d := -d) (by omega)
 have hp := rD_pos (n := -n) (d := -d) (by omega)
 have hl := rD_le (n := -n) (d := -d) (by omega)
 have hN := rN_bound (n := -n) (d := -d) (by omega)
 obtain ⟨hN1, hN2⟩ : -2000000000000000000 ≤ rN (-n) (-d) ∧ rN (-n) (-d) ≤ 2000000000000000000 := by omega
 clear hN
 have q1 : (-n).tdiv (gI (-n) (-d)) = rN (-n) (-d) := rN_tdiv (-n) (-d)
 have q2 : (-d) / gI (-n) (-d) = rD (-n) (-d) := rfl
 have q3 : (-d).tdiv (gI (-n) (-d)) = rD (-n) (-d) := rD_tdiv (-n) (-d)
 by_cases f2 : rD (-n) (-d) ≤ 1000000
 ·
  by_cases f1 : -1000000000 ≤ rN (-n) (-d) ∧ rN (-n) (-d) ≤ 1000000000
  ·
   have hf : fitsP (-n) (-d) := ⟨f1.1, f1.2, f2⟩
   have g1 : fitN (-n) (-d) = rN (-n) (-d) := if_pos hf
   have g2 : fitD (-n) (-d) = rD (-n) (-d) := if_pos hf
   have g3 : fitE (-n) (-d) = 0 := if_pos hf
   rw [g1, g2, g3]
   have hb := absB f1
   clear g1 g2 g3 hf f1
   go_enter Tryz.func75, Tryz.ntmps75
   go_wp2_with (first | (go_at_call 107; refine (R_abs_any _ _ (by omega) (by omega)).mono ?_; rintro e w' ⟨rfl, rfl⟩) | (go_at_call 106; refine (R_gcd_abs _ _ _ (by omega) (by omega) (by omega) (by omega)).mono ?_; rintro e w' ⟨rfl, rfl⟩))
   go_region
   go_wp2_with (first | (go_at_call 107; refine (R_abs_any _ _ (by omega) (by omega)).mono ?_; rintro e w' ⟨rfl, rfl⟩) | (go_at_call 106; refine (R_gcd_abs _ _ _ (by omega) (by omega) (by omega) (by omega)).mono ?_; rintro e w' ⟨rfl, rfl⟩))
   go_returns
   refine ⟨rfl, ?_⟩
   (repeat' (first | (with_reducible first | exact Below.refl _ _ | assumption | exact Bw.out (by assumption) | refine bw_alloc ?_ _ | refine bw_step ?_ (by assumption) | refine Below.alloc ?_ ?_ _ | refine Below.drew ?_ | refine below_drewN ?_ _ | refine Below.setCell ?_ ?_ _ | refine below_step ?_ (by assumption) ?_ | exact Nat.le_refl _) | omega | (simp; omega) | (simp; done)))
  ·
   have hf : ¬ fitsP (-n) (-d) := fun h => f1 ⟨h.1, h.2.1⟩
   have g1 : fitN (-n) (-d) = 0 := if_neg hf
   have g2 : fitD (-n) (-d) = 0 := if_neg hf
   have g3 : fitE (-n) (-d) = 3 := if_neg hf
   rw [g1, g2, g3]
   have hb := absI_gt (m := 1000000000) (by omega) f1
   clear g1 g2 g3 hf f1
   go_enter Tryz.func75, Tryz.ntmps75
   go_wp2_with (first | (go_at_call 107; refine (R_abs_any _ _ (by omega) (by omega)).mono ?_; rintro e w' ⟨rfl, rfl⟩) | (go_at_call 106; refine (R_gcd_abs _ _ _ (by omega) (by omega) (by omega) (by omega)).mono ?_; rintro e w' ⟨rfl, rfl⟩))
   go_region
   go_wp2_with (first | (go_at_call 107; refine (R_abs_any _ _ (by omega) (by omega)).mono ?_; rintro e w' ⟨rfl, rfl⟩) | (go_at_call 106; refine (R_gcd_abs _ _ _ (by omega) (by omega) (by omega) (by omega)).mono ?_; rintro e w' ⟨rfl, rfl⟩))
   go_returns
   refine ⟨rfl, ?_⟩
   (repeat' (first | (with_reducible first | exact Below.refl _ _ | assumption | exact Bw.out (by assumption) | refine bw_alloc ?_ _ | refine bw_step ?_ (by assumption) | refine Below.alloc ?_ ?_ _ | refine Below.drew ?_ | refine below_drewN ?_ _ | refine Below.setCell ?_ ?_ _ | refine below_step ?_ (by assumption) ?_ | exact Nat.le_refl _) | omega | (simp; omega) | (simp; done)))
 ·
  have hf : ¬ fitsP (-n) (-d) := fun h => f2 h.2.2
  have g1 : fitN (-n) (-d) = 0 := if_neg hf
  have g2 : fitD (-n) (-d) = 0 := if_neg hf
  have g3 : fitE (-n) (-d) = 3 := if_neg hf
  rw [g1, g2, g3]
  have hb : 1000000 < rD (-n) (-d) := by omega
  clear g1 g2 g3 hf f2
  go_enter Tryz.func75, Tryz.ntmps75
  go_wp2_with (first | (go_at_call 107; refine (R_abs_any _ _ (by omega) (by omega)).mono ?_; rintro e w' ⟨rfl, rfl⟩) | (go_at_call 106; refine (R_gcd_abs _ _ _ (by omega) (by omega) (by omega) (by omega)).mono ?_; rintro e w' ⟨rfl, rfl⟩))
  go_region
  go_wp2_with (first | (go_at_call 107; refine (R_abs_any _ _ (by omega) (by omega)).mono ?_; rintro e w' ⟨rfl, rfl⟩) | (go_at_call 106; refine (R_gcd_abs _ _ _ (by omega) (by omega) (by omega) (by omega)).mono ?_; rintro e w' ⟨rfl, rfl⟩))
  go_returns
  refine ⟨rfl, ?_⟩
  (repeat' (first | (with_reducible first | exact Below.refl _ _ | assumption | exact Bw.out (by assumption) | refine bw_alloc ?_ _ | refine bw_step ?_ (by assumption) | refine Below.alloc ?_ ?_ _ | refine Below.drew ?_ | refine below_drewN ?_ _ | refine Below.setCell ?_ ?_ _ | refine below_step ?_ (by assumption) ?_ | exact Nat.le_refl _) | omega | (simp; omega) | (simp; done)))
theorem R_both_any (a b c d : Int) (w : World) :
  Calls Tryz.prog 74 #[.agg #[.int .i64 a, .int .i64 b], .agg #[.int .i64 c, .int .i64 d]] w fun e w' =>
   e = .returned (.bool (vld a b && vld c d)) ∧ Below w.heap.size w w' := by
 by_cases v1 : vldP a b
 ·
  have e1 := vld_true v1
  rw [e1, Bool.true_and]
  go_enter Tryz.func74, Tryz.ntmps74
  go_wp2_with fail
  refine (R_valid_any _ _ _).mono ?_
  rintro e w1 ⟨rfl, hb1⟩
  have R2 : Row w1 (w.heap.size + 1) [.int .i64 c, .int .i64 d] := by (repeat' (first | (with_reducible assumption) | (with_reducible refine Row.new' _ _ _ (by first | rfl | (simp; done) | omega)) | (with_reducible refine Row.alloc ?_ _) | (with_reducible refine Row.drew ?_) | (with_reducible refine Row.drewN ?_ _) | (with_reducible refine Row.step ?_ (by with_reducible assumption))))
  have c1 := R2.cell 0 rfl
  have c2 := R2.cell 1 rfl
  go_wp2_with fail
  refine (R_valid_any _ _ _).mono ?_
  rintro e w2 ⟨rfl, hb2⟩
  go_wp2_with fail
  go_ret
  refine ⟨rfl, ?_⟩
  (repeat' (first | (with_reducible first | exact Below.refl _ _ | assumption | exact Bw.out (by assumption) | refine bw_alloc ?_ _ | refine bw_step ?_ (by assumption) | refine Below.alloc ?_ ?_ _ | refine Below.drew ?_ | refine below_drewN ?_ _ | refine Below.setCell ?_ ?_ _ | refine below_step ?_ (by assumption) ?_ | exact Nat.le_refl _) | omega | (simp; omega) | (simp; done)))
 ·
  have e1 := vld_false v1
  rw [e1, Bool.false_and]
  go_enter Tryz.func74, Tryz.ntmps74
  go_wp2_with fail
  refine (R_valid_any _ _ _).mono ?_
  rintro e w1 ⟨rfl, hb1⟩
  have R2 : Row w1 (w.heap.size + 1) [.int .i64 c, .int .i64 d] := by (repeat' (first | (with_reducible assumption) | (with_reducible refine Row.new' _ _ _ (by first | rfl | (simp; done) | omega)) | (with_reducible refine Row.alloc ?_ _) | (with_reducible refine Row.drew ?_) | (with_reducible refine Row.drewN ?_ _) | (with_reducible refine Row.step ?_ (by with_reducible assumption))))
  have c1 := R2.cell 0 rfl
  have c2 := R2.cell 1 rfl
  go_wp2_with fail
  refine (R_valid_any _ _ _).mono ?_
  rintro e w2 ⟨rfl, hb2⟩
  go_wp2_with fail
  go_ret
  refine ⟨rfl, ?_⟩
  (repeat' (first | (with_reducible first | exact Below.refl _ _ | assumption | exact Bw.out (by assumption) | refine bw_alloc ?_ _ | refine bw_step ?_ (by assumption) | refine Below.alloc ?_ ?_ _ | refine Below.drew ?_ | refine below_drewN ?_ _ | refine Below.setCell ?_ ?_ _ | refine below_step ?_ (by assumption) ?_ | exact Nat.le_refl _) | omega | (simp; omega) | (simp; done)))
set_option maxHeartbeats 1600000 in
theorem R_make_any (n d : Int) (w : World) :
  Calls Tryz.prog 50 #[.int .i64 n, .int .i64 d] w fun e w' => e = .returned (.tuple #[.agg #[.int .i64 (mkN n d), .int .i64 (mkD n d)], .int .i64 (mkE n d)]) ∧ Below w.heap.size w w' := by
 by_cases h : mkP n d
 ·
  obtain ⟨h0, ⟨n1, n2⟩, d1, d2⟩ := id h
  have hd0 : (d == 0) = false := by simpa using h0
  by_cases hd : d < 0
  ·
   obtain ⟨o1, o2, o3⟩ := mk_neg h hd
   rw [o1, o2, o3]
   clear o1 o2 o3 h h0
   go_enter Tryz.func50, Tryz.ntmps50
   go_wp2_with fail
   refine (R_make0_neg _ _ _ (by omega) (by omega) (by omega) (by omega) (by omega)).mono ?_
   rintro e w1 ⟨rfl, hb1⟩
   have R0 : Row w1 w.heap.size [.int .i64 0, .int .i64 0] := by (repeat' (first | (with_reducible assumption) | (with_reducible refine Row.new' _ _ _ (by first | rfl | (simp; done) | omega)) | (with_reducible refine Row.alloc ?_ _) | (with_reducible refine Row.drew ?_) | (with_reducible refine Row.drewN ?_ _) | (with_reducible refine Row.step ?_ (by with_reducible assumption))))
   have c0 := R0.cell 0 rfl
   have c1 := R0.cell 1 rfl
   have z0 := R0.frozen 0
   have z1 := R0.frozen 1
   have l0 := R0.lt
   go_wp2_with fail
   refine bodyPost_ret (v := .tuple #[.agg #[.int .i64 _, .int .i64 _], .int .i64 _]) (by simp [results, Tryz.results50, go_sem, c0, c1, l0]) rfl ⟨rfl, ?_⟩
   (repeat' (first | (with_reducible first | exact Below.refl _ _ | assumption | exact Bw.out (by assumption) | refine bw_alloc ?_ _ | refine bw_step ?_ (by assumption) | refine Below.alloc ?_ ?_ _ | refine Below.drew ?_ | refine below_drewN ?_ _ | refine Below.setCell ?_ ?_ _ | refine below_step ?_ (by assumption) ?_ | exact Nat.le_refl _) | omega | (simp; omega) | (simp; done)))
  ·
   obtain ⟨o1, o2, o3⟩ := mk_pos h hd
   rw [o1, o2, o3]
   clear o1 o2 o3 h
   have h3 : 1 ≤ d := by omega
   clear h0
   go_enter Tryz.func50, Tryz.ntmps50
   go_wp2_with fail
   refine (R_make0_pos _ _ _ (by omega) (by omega) (by omega) (by omega) (by omega)).mono ?_
   rintro e w1 ⟨rfl, hb1⟩
   have R0 : Row w1 w.heap.size [.int .i64 0, .int .i64 0] := by (repeat' (first | (with_reducible assumption) | (with_reducible refine Row.new' _ _ _ (by first | rfl | (simp; done) | omega)) | (with_reducible refine Row.alloc ?_ _) | (with_reducible refine Row.drew ?_) | (with_reducible refine Row.drewN ?_ _) | (with_reducible refine Row.step ?_ (by with_reducible assumption))))
   have c0 := R0.cell 0 rfl
   have c1 := R0.cell 1 rfl
   have z0 := R0.frozen 0
   have z1 := R0.frozen 1
   have l0 := R0.lt
   go_wp2_with fail
   refine bodyPost_ret (v := .tuple #[.agg #[.int .i64 _, .int .i64 _], .int .i64 _]) (by simp [results, Tryz.results50, go_sem, c0, c1, l0]) rfl ⟨rfl, ?_⟩
   (repeat' (first | (with_reducible first | exact Below.refl _ _ | assumption | exact Bw.out (by assumption) | refine bw_alloc ?_ _ | refine bw_step ?_ (by assumption) | refine Below.alloc ?_ ?_ _ | refine Below.drew ?_ | refine below_drewN ?_ _ | refine Below.setCell ?_ ?_ _ | refine below_step ?_ (by assumption) ?_ | exact Nat.le_refl _) | omega | (simp; omega) | (simp; done)))
 ·
  obtain ⟨o1, o2, o3⟩ := mk_not h
  rw [o1, o2, o3]
  clear o1 o2 o3
  have hh : d = 0 ∨ (d ≠ 0 ∧ n < -1000000000000000) ∨ (d ≠ 0 ∧ -1000000000000000 ≤ n ∧ 1000000000000000 < n) ∨ (d ≠ 0 ∧ -1000000000000000 ≤ n ∧ n ≤ 1000000000000000 ∧ d < -1000000000000000) ∨ (d ≠ 0 ∧ -1000000000000000 ≤ n ∧ n ≤ 1000000000000000 ∧ -1000000000000000 ≤ d ∧ 1000000000000000 < d) := by
   unfold mkP at h; omega
  clear h
  rcases hh with rfl | ⟨h0, h1⟩ | ⟨h0, h1, h2⟩ | ⟨h0, h1, h2, h3⟩ | ⟨h0, h1, h2, h3, h4⟩
  ·
   go_enter Tryz.func50, Tryz.ntmps50
   go_wp2_with fail
   go_returns
   refine ⟨rfl, ?_⟩
   (repeat' (first | (with_reducible first | exact Below.refl _ _ | assumption | exact Bw.out (by assumption) | refine bw_alloc ?_ _ | refine bw_step ?_ (by assumption) | refine Below.alloc ?_ ?_ _ | refine Below.drew ?_ | refine below_drewN ?_ _ | refine Below.setCell ?_ ?_ _ | refine below_step ?_ (by assumption) ?_ | exact Nat.le_refl _) | omega | (simp; omega) | (simp; done)))
  all_goals
   have hd0 : (d == 0) = false := by simpa using h0
   clear h0
   go_enter Tryz.func50, Tryz.ntmps50
   go_wp2_with fail
   go_returns
   refine ⟨rfl, ?_⟩
   (repeat' (first | (with_reducible first | exact Below.refl _ _ | assumption | exact Bw.out (by assumption) | refine bw_alloc ?_ _ | refine bw_step ?_ (by assumption) | refine Below.alloc ?_ ?_ _ | refine Below.drew ?_ | refine below_drewN ?_ _ | refine Below.setCell ?_ ?_ _ | refine below_step ?_ (by assumption) ?_ | exact Nat.le_refl _) | omega | (simp; omega) | (simp; done)))
set_option maxHeartbeats 1600000 in
theorem R_Add_any (a b c d : Int) (w : World) :
  Calls Tryz.prog 47 #[.agg #[.int .i64 a, .int .i64 b], .agg #[.int .i64 c, .int .i64 d]] w fun e w' =>
   e = .returned (.tuple #[.agg #[.int .i64 (opN a b c d (a * d + c * b) (b * d)), .int .i64 (opD a b c d (a * d + c * b) (b * d))], .int .i64 (opE a b c d (a * d + c * b) (b * d))]) ∧ Below w.heap.size w w' := by
 by_cases v : vldP a b ∧ vldP c d
 ·
  have e0 : (vld a b && vld c d) = true := by rw [vld_true v.1, vld_true v.2]; rfl
  rw [opN_ok v.1 v.2, opD_ok v.1 v.2, opE_ok v.1 v.2]
  obtain ⟨⟨k1, k1'⟩, ⟨k2, k2'⟩, ⟨k3, k3'⟩, k4, k4'⟩ := prod_bounds v.1 v.2
  clear v
  go_enter Tryz.func47, Tryz.ntmps47
  go_wp2_with fail
  refine (R_both_any _ _ _ _ _).mono ?_
  rintro e w1 ⟨rfl, hb1⟩
  have Ra : Row w1 w.heap.size [.int .i64 a, .int .i64 b] := by (repeat' (first | (with_reducible assumption) | (with_reducible refine Row.new' _ _ _ (by first | rfl | (simp; done) | omega)) | (with_reducible refine Row.alloc ?_ _) | (with_reducible refine Row.drew ?_) | (with_reducible refine Row.drewN ?_ _) | (with_reducible refine Row.step ?_ (by with_reducible assumption))))
  have Rb : Row w1 (w.heap.size + 1) [.int .i64 c, .int .i64 d] := by (repeat' (first | (with_reducible assumption) | (with_reducible refine Row.new' _ _ _ (by first | rfl | (simp; done) | omega)) | (with_reducible refine Row.alloc ?_ _) | (with_reducible refine Row.drew ?_) | (with_reducible refine Row.drewN ?_ _) | (with_reducible refine Row.step ?_ (by with_reducible assumption))))
  have R0 : Row w1 (w.heap.size + 1 + 1) [.int .i64 0, .int .i64 0] := by (repeat' (first | (with_reducible assumption) | (with_reducible refine Row.new' _ _ _ (by first | rfl | (simp; done) | omega)) | (with_reducible refine Row.alloc ?_ _) | (with_reducible refine Row.drew ?_) | (with_reducible refine Row.drewN ?_ _) | (with_reducible refine Row.step ?_ (by with_reducible assumption))))
  have a0 := Ra.cell 0 rfl
  have a1 := Ra.cell 1 rfl
  have b0 := Rb.cell 0 rfl
  have b1 := Rb.cell 1 rfl
  go_wp2_with fail
  refine (R_make0_pos _ _ _ (by omega) (by omega) (by omega) (by omega) (by omega)).mono ?_
  rintro e w2 ⟨rfl, hb2⟩
  have R2 : Row w2 (w.heap.size + 1 + 1) [.int .i64 0, .int .i64 0] := by (repeat' (first | (with_reducible assumption) | (with_reducible refine Row.new' _ _ _ (by first | rfl | (simp; done) | omega)) | (with_reducible refine Row.alloc ?_ _) | (with_reducible refine Row.drew ?_) | (with_reducible refine Row.drewN ?_ _) | (with_reducible refine Row.step ?_ (by with_reducible assumption))))
  have c0 := R2.cell 0 rfl
  have c1 := R2.cell 1 rfl
  have z0 := R2.frozen 0
  have z1 := R2.frozen 1
  have l0 := R2.lt
  go_wp2_with fail
  refine bodyPost_ret (v := .tuple #[.agg #[.int .i64 _, .int .i64 _], .int .i64 _]) (by simp [results, Tryz.results47, go_sem, c0, c1, l0]) rfl ⟨rfl, ?_⟩
  have hs1 := hb1.size
  have hs2 := hb2.size
  simp only [World.size_alloc] at hs1
  (repeat' (first | (with_reducible first | exact Below.refl _ _ | assumption | exact Bw.out (by assumption) | refine bw_alloc ?_ _ | refine bw_step ?_ (by assumption) | refine Below.alloc ?_ ?_ _ | refine Below.drew ?_ | refine below_drewN ?_ _ | refine Below.setCell ?_ ?_ _ | refine below_step ?_ (by assumption) ?_ | exact Nat.le_refl _) | omega | (simp; omega) | (simp; done)))
 ·
  have e0 : (vld a b && vld c d) = false := by
   rw [Bool.and_eq_false_iff]
   by_cases v1 : vldP a b
   ·
    exact Or.inr (vld_false (fun v2 => v ⟨v1, v2⟩))
   ·
    exact Or.inl (vld_false v1)
  obtain ⟨o1, o2, o3⟩ := op_not (n := a * d + c * b) (m := b * d) v
  rw [o1, o2, o3]
  clear o1 o2 o3 v
  go_enter Tryz.func47, Tryz.ntmps47
  go_wp2_with fail
  refine (R_both_any _ _ _ _ _).mono ?_
  rintro e w1 ⟨rfl, hb1⟩
  have R0 : Row w1 (w.heap.size + 1 + 1) [.int .i64 0, .int .i64 0] := by (repeat' (first | (with_reducible assumption) | (with_reducible refine Row.new' _ _ _ (by first | rfl | (simp; done) | omega)) | (with_reducible refine Row.alloc ?_ _) | (with_reducible refine Row.drew ?_) | (with_reducible refine Row.drewN ?_ _) | (with_reducible refine Row.step ?_ (by with_reducible assumption))))
  have c0 := R0.cell 0 rfl
  have c1 := R0.cell 1 rfl
  have z0 := R0.frozen 0
  have z1 := R0.frozen 1
  have l0 := R0.lt
  go_wp2_with fail
  refine bodyPost_ret (v := .tuple #[.agg #[.int .i64 0, .int .i64 0], .int .i64 1]) (by simp [results, Tryz.results47, go_sem, c0, c1, l0]) rfl ⟨rfl, ?_⟩
  have hs1 := hb1.size
  simp only [World.size_alloc] at hs1
  (repeat' (first | (with_reducible first | exact Below.refl _ _ | assumption | exact Bw.out (by assumption) | refine bw_alloc ?_ _ | refine bw_step ?_ (by assumption) | refine Below.alloc ?_ ?_ _ | refine Below.drew ?_ | refine below_drewN ?_ _ | refine Below.setCell ?_ ?_ _ | refine below_step ?_ (by assumption) ?_ | exact Nat.le_refl _) | omega | (simp; omega) | (simp; done)))
set_option maxHeartbeats 1600000 in
theorem R_Sub_any (a b c d : Int) (w : World) :
  Calls Tryz.prog 48 #[.agg #[.int .i64 a, .int .i64 b], .agg #[.int .i64 c, .int .i64 d]] w fun e w' =>
   e = .returned (.tuple #[.agg #[.int .i64 (opN a b c d (a * d - c * b) (b * d)), .int .i64 (opD a b c d (a * d - c * b) (b * d))], .int .i64 (opE a b c d (a * d - c * b) (b * d))]) ∧ Below w.heap.size w w' := by
 by_cases v : vldP a b ∧ vldP c d
 ·
  have e0 : (vld a b && vld c d) = true := by rw [vld_true v.1, vld_true v.2]; rfl
  rw [opN_ok v.1 v.2, opD_ok v.1 v.2, opE_ok v.1 v.2]
  obtain ⟨⟨k1, k1'⟩, ⟨k2, k2'⟩, ⟨k3, k3'⟩, k4, k4'⟩ := prod_bounds v.1 v.2
  clear v
  go_enter Tryz.func48, Tryz.ntmps48
  go_wp2_with fail
  refine (R_both_any _ _ _ _ _).mono ?_
  rintro e w1 ⟨rfl, hb1⟩
  have Ra : Row w1 w.heap.size [.int .i64 a, .int .i64 b] := by (repeat' (first | (with_reducible assumption) | (with_reducible refine Row.new' _ _ _ (by first | rfl | (simp; done) | omega)) | (with_reducible refine Row.alloc ?_ _) | (with_reducible refine Row.drew ?_) | (with_reducible refine Row.drewN ?_ _) | (with_reducible refine Row.step ?_ (by with_reducible assumption))))
  have Rb : Row w1 (w.heap.size + 1) [.int .i64 c, .int .i64 d] := by (repeat' (first | (with_reducible assumption) | (with_reducible refine Row.new' _ _ _ (by first | rfl | (simp; done) | omega)) | (with_reducible refine Row.alloc ?_ _) | (with_reducible refine Row.drew ?_) | (with_reducible refine Row.drewN ?_ _) | (with_reducible refine Row.step ?_ (by with_reducible assumption))))
  have R0 : Row w1 (w.heap.size + 1 + 1) [.int .i64 0, .int .i64 0] := by (repeat' (first | (with_reducible assumption) | (with_reducible refine Row.new' _ _ _ (by first | rfl | (simp; done) | omega)) | (with_reducible refine Row.alloc ?_ _) | (with_reducible refine Row.drew ?_) | (with_reducible refine Row.drewN ?_ _) | (with_reducible refine Row.step ?_ (by with_reducible assumption))))
  have a0 := Ra.cell 0 rfl
  have a1 := Ra.cell 1 rfl
  have b0 := Rb.cell 0 rfl
  have b1 := Rb.cell 1 rfl
  go_wp2_with fail
  refine (R_make0_pos _ _ _ (by omega) (by omega) (by omega) (by omega) (by omega)).mono ?_
  rintro e w2 ⟨rfl, hb2⟩
  have R2 : Row w2 (w.heap.size + 1 + 1) [.int .i64 0, .int .i64 0] := by (repeat' (first | (with_reducible assumption) | (with_reducible refine Row.new' _ _ _ (by first | rfl | (simp; done) | omega)) | (with_reducible refine Row.alloc ?_ _) | (with_reducible refine Row.drew ?_) | (with_reducible refine Row.drewN ?_ _) | (with_reducible refine Row.step ?_ (by with_reducible assumption))))
  have c0 := R2.cell 0 rfl
  have c1 := R2.cell 1 rfl
  have z0 := R2.frozen 0
  have z1 := R2.frozen 1
  have l0 := R2.lt
  go_wp2_with fail
  refine bodyPost_ret (v := .tuple #[.agg #[.int .i64 _, .int .i64 _], .int .i64 _]) (by simp [results, Tryz.results48, go_sem, c0, c1, l0]) rfl ⟨rfl, ?_⟩
  have hs1 := hb1.size
  have hs2 := hb2.size
  simp only [World.size_alloc] at hs1
  (repeat' (first | (with_reducible first | exact Below.refl _ _ | assumption | exact Bw.out (by assumption) | refine bw_alloc ?_ _ | refine bw_step ?_ (by assumption) | refine Below.alloc ?_ ?_ _ | refine Below.drew ?_ | refine below_drewN ?_ _ | refine Below.setCell ?_ ?_ _ | refine below_step ?_ (by assumption) ?_ | exact Nat.le_refl _) | omega | (simp; omega) | (simp; done)))
 ·
  have e0 : (vld a b && vld c d) = false := by
   rw [Bool.and_eq_false_iff]
   by_cases v1 : vldP a b
   ·
    exact Or.inr (vld_false (fun v2 => v ⟨v1, v2⟩))
   ·
    exact Or.inl (vld_false v1)
  obtain ⟨o1, o2, o3⟩ := op_not (n := a * d - c * b) (m := b * d) v
  rw [o1, o2, o3]
  clear o1 o2 o3 v
  go_enter Tryz.func48, Tryz.ntmps48
  go_wp2_with fail
  refine (R_both_any _ _ _ _ _).mono ?_
  rintro e w1 ⟨rfl, hb1⟩
  have R0 : Row w1 (w.heap.size + 1 + 1) [.int .i64 0, .int .i64 0] := by (repeat' (first | (with_reducible assumption) | (with_reducible refine Row.new' _ _ _ (by first | rfl | (simp; done) | omega)) | (with_reducible refine Row.alloc ?_ _) | (with_reducible refine Row.drew ?_) | (with_reducible refine Row.drewN ?_ _) | (with_reducible refine Row.step ?_ (by with_reducible assumption))))
  have c0 := R0.cell 0 rfl
  have c1 := R0.cell 1 rfl
  have z0 := R0.frozen 0
  have z1 := R0.frozen 1
  have l0 := R0.lt
  go_wp2_with fail
  refine bodyPost_ret (v := .tuple #[.agg #[.int .i64 0, .int .i64 0], .int .i64 1]) (by simp [results, Tryz.results48, go_sem, c0, c1, l0]) rfl ⟨rfl, ?_⟩
  have hs1 := hb1.size
  simp only [World.size_alloc] at hs1
  (repeat' (first | (with_reducible first | exact Below.refl _ _ | assumption | exact Bw.out (by assumption) | refine bw_alloc ?_ _ | refine bw_step ?_ (by assumption) | refine Below.alloc ?_ ?_ _ | refine Below.drew ?_ | refine below_drewN ?_ _ | refine Below.setCell ?_ ?_ _ | refine below_step ?_ (by assumption) ?_ | exact Nat.le_refl _) | omega | (simp; omega) | (simp; done)))
set_option maxHeartbeats 1600000 in
theorem R_Mul_any (a b c d : Int) (w : World) :
  Calls Tryz.prog 49 #[.agg #[.int .i64 a, .int .i64 b], .agg #[.int .i64 c, .int .i64 d]] w fun e w' =>
   e = .returned (.tuple #[.agg #[.int .i64 (opN a b c d (a * c) (b * d)), .int .i64 (opD a b c d (a * c) (b * d))], .int .i64 (opE a b c d (a * c) (b * d))]) ∧ Below w.heap.size w w' := by
 by_cases v : vldP a b ∧ vldP c d
 ·
  have e0 : (vld a b && vld c d) = true := by rw [vld_true v.1, vld_true v.2]; rfl
  rw [opN_ok v.1 v.2, opD_ok v.1 v.2, opE_ok v.1 v.2]
  obtain ⟨⟨k1, k1'⟩, ⟨k2, k2'⟩, ⟨k3, k3'⟩, k4, k4'⟩ := prod_bounds v.1 v.2
  clear v
  go_enter Tryz.func49, Tryz.ntmps49
  go_wp2_with fail
  refine (R_both_any _ _ _ _ _).mono ?_
  rintro e w1 ⟨rfl, hb1⟩
  have Ra : Row w1 w.heap.size [.int .i64 a, .int .i64 b] := by (repeat' (first | (with_reducible assumption) | (with_reducible refine Row.new' _ _ _ (by first | rfl | (simp; done) | omega)) | (with_reducible refine Row.alloc ?_ _) | (with_reducible refine Row.drew ?_) | (with_reducible refine Row.drewN ?_ _) | (with_reducible refine Row.step ?_ (by with_reducible assumption))))
  have Rb : Row w1 (w.heap.size + 1) [.int .i64 c, .int .i64 d] := by (repeat' (first | (with_reducible assumption) | (with_reducible refine Row.new' _ _ _ (by first | rfl | (simp; done) | omega)) | (with_reducible refine Row.alloc ?_ _) | (with_reducible refine Row.drew ?_) | (with_reducible refine Row.drewN ?_ _) | (with_reducible refine Row.step ?_ (by with_reducible assumption))))
  have R0 : Row w1 (w.heap.size + 1 + 1) [.int .i64 0, .int .i64 0] := by (repeat' (first | (with_reducible assumption) | (with_reducible refine Row.new' _ _ _ (by first | rfl | (simp; done) | omega)) | (with_reducible refine Row.alloc ?_ _) | (with_reducible refine Row.drew ?_) | (with_reducible refine Row.drewN ?_ _) | (with_reducible refine Row.step ?_ (by with_reducible assumption))))
  have a0 := Ra.cell 0 rfl
  have a1 := Ra.cell 1 rfl
  have b0 := Rb.cell 0 rfl
  have b1 := Rb.cell 1 rfl
  go_wp2_with fail
  refine (R_make0_pos _ _ _ (by omega) (by omega) (by omega) (by omega) (by omega)).mono ?_
  rintro e w2 ⟨rfl, hb2⟩
  have R2 : Row w2 (w.heap.size + 1 + 1) [.int .i64 0, .int .i64 0] := by (repeat' (first | (with_reducible assumption) | (with_reducible refine Row.new' _ _ _ (by first | rfl | (simp; done) | omega)) | (with_reducible refine Row.alloc ?_ _) | (with_reducible refine Row.drew ?_) | (with_reducible refine Row.drewN ?_ _) | (with_reducible refine Row.step ?_ (by with_reducible assumption))))
  have c0 := R2.cell 0 rfl
  have c1 := R2.cell 1 rfl
  have z0 := R2.frozen 0
  have z1 := R2.frozen 1
  have l0 := R2.lt
  go_wp2_with fail
  refine bodyPost_ret (v := .tuple #[.agg #[.int .i64 _, .int .i64 _], .int .i64 _]) (by simp [results, Tryz.results49, go_sem, c0, c1, l0]) rfl ⟨rfl, ?_⟩
  have hs1 := hb1.size
  have hs2 := hb2.size
  simp only [World.size_alloc] at hs1
  (repeat' (first | (with_reducible first | exact Below.refl _ _ | assumption | exact Bw.out (by assumption) | refine bw_alloc ?_ _ | refine bw_step ?_ (by assumption) | refine Below.alloc ?_ ?_ _ | refine Below.drew ?_ | refine below_drewN ?_ _ | refine Below.setCell ?_ ?_ _ | refine below_step ?_ (by assumption) ?_ | exact Nat.le_refl _) | omega | (simp; omega) | (simp; done)))
 ·
  have e0 : (vld a b && vld c d) = false := by
   rw [Bool.and_eq_false_iff]
   by_cases v1 : vldP a b
   ·
    exact Or.inr (vld_false (fun v2 => v ⟨v1, v2⟩))
   ·
    exact Or.inl (vld_false v1)
  obtain ⟨o1, o2, o3⟩ := op_not (n := a * c) (m := b * d) v
  rw [o1, o2, o3]
  clear o1 o2 o3 v
  go_enter Tryz.func49, Tryz.ntmps49
  go_wp2_with fail
  refine (R_both_any _ _ _ _ _).mono ?_
  rintro e w1 ⟨rfl, hb1⟩
  have R0 : Row w1 (w.heap.size + 1 + 1) [.int .i64 0, .int .i64 0] := by (repeat' (first | (with_reducible assumption) | (with_reducible refine Row.new' _ _ _ (by first | rfl | (simp; done) | omega)) | (with_reducible refine Row.alloc ?_ _) | (with_reducible refine Row.drew ?_) | (with_reducible refine Row.drewN ?_ _) | (with_reducible refine Row.step ?_ (by with_reducible assumption))))
  have c0 := R0.cell 0 rfl
  have c1 := R0.cell 1 rfl
  have z0 := R0.frozen 0
  have z1 := R0.frozen 1
  have l0 := R0.lt
  go_wp2_with fail
  refine bodyPost_ret (v := .tuple #[.agg #[.int .i64 0, .int .i64 0], .int .i64 1]) (by simp [results, Tryz.results49, go_sem, c0, c1, l0]) rfl ⟨rfl, ?_⟩
  have hs1 := hb1.size
  simp only [World.size_alloc] at hs1
  (repeat' (first | (with_reducible first | exact Below.refl _ _ | assumption | exact Bw.out (by assumption) | refine bw_alloc ?_ _ | refine bw_step ?_ (by assumption) | refine Below.alloc ?_ ?_ _ | refine Below.drew ?_ | refine below_drewN ?_ _ | refine Below.setCell ?_ ?_ _ | refine below_step ?_ (by assumption) ?_ | exact Nat.le_refl _) | omega | (simp; omega) | (simp; done)))
end Go.Proofs.YtcmodmchnokmgaaGreat
