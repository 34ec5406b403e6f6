/-
 The walks of the reference implementation of ratios, second part: Compare, rounding.
-/
import Derived.Test.YtcmodmchnokmgaaGreatRatQ
namespace Go.Proofs.YtcmodmchnokmgaaGreat
set_option linter.unusedSimpArgs false
set_option linter.unusedVariables false
open Go.RowKit
set_option maxHeartbeats 1600000 in
theorem R_compare_any (a b c d : Int) (w : World) :
  Calls Tryz.prog 46 #[.agg #[.int .i64 a, .int .i64 b], .agg #[.int .i64 c, .int .i64 d]] w fun e w' =>
   e = .returned (.tuple #[.int .i64 (cmpV a b c d), .int .i64 (cmpE a b c d)]) ∧ Below w.heap.size w w' := by
 by_cases v : vldP a b ∧ vldP c d
 ·
  have e0 : (vld a b && vld c d) = true := by rw [vld_true v.1, vld_true v.2]; rfl
  obtain ⟨⟨k1, k1'⟩, ⟨k2, k2'⟩, k3, k4⟩ := prod_bounds v.1 v.2
  clear k3 k4
  rcases Int.lt_trichotomy (a * d) (c * b) with hlt | heq | hgt
  ·
   obtain ⟨o1, o2⟩ := cmp_lt v.1 v.2 hlt
   rw [o1, o2]
   clear o1 o2 v
   have HH := Lib.hid hlt
   try clear heq
   have hl1 : decide (a * d < c * b) = decide ("hlt" = "hlt") := by have := HH.out; by_cases hx : a * d < c * b <;> simp [hx] <;> omega
   have hl2 : decide (c * b < a * d) = decide ("hlt" = "hgt") := by have := HH.out; by_cases hx : c * b < a * d <;> simp [hx] <;> omega
   simp only [String.reduceEq, decide_true, decide_false] at hl1 hl2
   go_enter Tryz.func46, Tryz.ntmps46
   go_wp2_with fail
   refine (R_both_any _ _ _ _ _).mono ?_
   rintro e w1 ⟨rfl, hb1⟩
   have Ra : Row w1 w.heap.size [.int .i64 a, .int .i64 b] := by (repeat' (first | (with_reducible assumption) | (with_reducible refine Row.new' _ _ _ (by first | rfl | (simp; done) | omega)) | (with_reducible refine Row.alloc ?_ _) | (with_reducible refine Row.drew ?_) | (with_reducible refine Row.drewN ?_ _) | (with_reducible refine Row.step ?_ (by with_reducible assumption))))
   have Rb : Row w1 (w.heap.size + 1) [.int .i64 c, .int .i64 d] := by (repeat' (first | (with_reducible assumption) | (with_reducible refine Row.new' _ _ _ (by first | rfl | (simp; done) | omega)) | (with_reducible refine Row.alloc ?_ _) | (with_reducible refine Row.drew ?_) | (with_reducible refine Row.drewN ?_ _) | (with_reducible refine Row.step ?_ (by with_reducible assumption))))
   have a0 := Ra.cell 0 rfl
   have a1 := Ra.cell 1 rfl
   have b0 := Rb.cell 0 rfl
   have b1 := Rb.cell 1 rfl
   go_wp2_with fail
   go_ret2
   refine ⟨rfl, ?_⟩
   (repeat' (first | (with_reducible first | exact Below.refl _ _ | assumption | exact Bw.out (by assumption) | refine bw_alloc ?_ _ | refine bw_step ?_ (by assumption) | refine Below.alloc ?_ ?_ _ | refine Below.drew ?_ | refine below_drewN ?_ _ | refine Below.setCell ?_ ?_ _ | refine below_step ?_ (by assumption) ?_ | exact Nat.le_refl _) | omega | (simp; omega) | (simp; done)))
  ·
   obtain ⟨o1, o2⟩ := cmp_eq v.1 v.2 heq
   rw [o1, o2]
   clear o1 o2 v
   have HH := Lib.hid heq
   try clear heq
   have hl1 : decide (a * d < c * b) = decide ("heq" = "hlt") := by have := HH.out; by_cases hx : a * d < c * b <;> simp [hx] <;> omega
   have hl2 : decide (c * b < a * d) = decide ("heq" = "hgt") := by have := HH.out; by_cases hx : c * b < a * d <;> simp [hx] <;> omega
   simp only [String.reduceEq, decide_true, decide_false] at hl1 hl2
   go_enter Tryz.func46, Tryz.ntmps46
   go_wp2_with fail
   refine (R_both_any _ _ _ _ _).mono ?_
   rintro e w1 ⟨rfl, hb1⟩
   have Ra : Row w1 w.heap.size [.int .i64 a, .int .i64 b] := by (repeat' (first | (with_reducible assumption) | (with_reducible refine Row.new' _ _ _ (by first | rfl | (simp; done) | omega)) | (with_reducible refine Row.alloc ?_ _) | (with_reducible refine Row.drew ?_) | (with_reducible refine Row.drewN ?_ _) | (with_reducible refine Row.step ?_ (by with_reducible assumption))))
   have Rb : Row w1 (w.heap.size + 1) [.int .i64 c, .int .i64 d] := by (repeat' (first | (with_reducible assumption) | (with_reducible refine Row.new' _ _ _ (by first | rfl | (simp; done) | omega)) | (with_reducible refine Row.alloc ?_ _) | (with_reducible refine Row.drew ?_) | (with_reducible refine Row.drewN ?_ _) | (with_reducible refine Row.step ?_ (by with_reducible assumption))))
   have a0 := Ra.cell 0 rfl
   have a1 := Ra.cell 1 rfl
   have b0 := Rb.cell 0 rfl
   have b1 := Rb.cell 1 rfl
   go_wp2_with fail
   go_ret2
   refine ⟨rfl, ?_⟩
   (repeat' (first | (with_reducible first | exact Below.refl _ _ | assumption | exact Bw.out (by assumption) | refine bw_alloc ?_ _ | refine bw_step ?_ (by assumption) | refine Below.alloc ?_ ?_ _ | refine Below.drew ?_ | refine below_drewN ?_ _ | refine Below.setCell ?_ ?_ _ | refine below_step ?_ (by assumption) ?_ | exact Nat.le_refl _) | omega | (simp; omega) | (simp; done)))
  ·
   obtain ⟨o1, o2⟩ := cmp_gt v.1 v.2 hgt
   rw [o1, o2]
   clear o1 o2 v
   have HH := Lib.hid hgt
   try clear heq
   have hl1 : decide (a * d < c * b) = decide ("hgt" = "hlt") := by have := HH.out; by_cases hx : a * d < c * b <;> simp [hx] <;> omega
   have hl2 : decide (c * b < a * d) = decide ("hgt" = "hgt") := by have := HH.out; by_cases hx : c * b < a * d <;> simp [hx] <;> omega
   simp only [String.reduceEq, decide_true, decide_false] at hl1 hl2
   go_enter Tryz.func46, Tryz.ntmps46
   go_wp2_with fail
   refine (R_both_any _ _ _ _ _).mono ?_
   rintro e w1 ⟨rfl, hb1⟩
   have Ra : Row w1 w.heap.size [.int .i64 a, .int .i64 b] := by (repeat' (first | (with_reducible assumption) | (with_reducible refine Row.new' _ _ _ (by first | rfl | (simp; done) | omega)) | (with_reducible refine Row.alloc ?_ _) | (with_reducible refine Row.drew ?_) | (with_reducible refine Row.drewN ?_ _) | (with_reducible refine Row.step ?_ (by with_reducible assumption))))
   have Rb : Row w1 (w.heap.size + 1) [.int .i64 c, .int .i64 d] := by (repeat' (first | (with_reducible assumption) | (with_reducible refine Row.new' _ _ _ (by first | rfl | (simp; done) | omega)) | (with_reducible refine Row.alloc ?_ _) | (with_reducible refine Row.drew ?_) | (with_reducible refine Row.drewN ?_ _) | (with_reducible refine Row.step ?_ (by with_reducible assumption))))
   have a0 := Ra.cell 0 rfl
   have a1 := Ra.cell 1 rfl
   have b0 := Rb.cell 0 rfl
   have b1 := Rb.cell 1 rfl
   go_wp2_with fail
   go_ret2
   refine ⟨rfl, ?_⟩
   (repeat' (first | (with_reducible first | exact Below.refl _ _ | assumption | exact Bw.out (by assumption) | refine bw_alloc ?_ _ | refine bw_step ?_ (by assumption) | refine Below.alloc ?_ ?_ _ | refine Below.drew ?_ | refine below_drewN ?_ _ | refine Below.setCell ?_ ?_ _ | refine below_step ?_ (by assumption) ?_ | exact Nat.le_refl _) | omega | (simp; omega) | (simp; done)))
 ·
  have e0 : (vld a b && vld c d) = false := by
   rw [Bool.and_eq_false_iff]
   by_cases v1 : vldP a b
   ·
    exact Or.inr (vld_false (fun v2 => v ⟨v1, v2⟩))
   ·
    exact Or.inl (vld_false v1)
  obtain ⟨o1, o2⟩ := cmp_not v
  rw [o1, o2]
  clear o1 o2 v
  go_enter Tryz.func46, Tryz.ntmps46
  go_wp2_with fail
  refine (R_both_any _ _ _ _ _).mono ?_
  rintro e w1 ⟨rfl, hb1⟩
  go_wp2_with fail
  go_ret2
  refine ⟨rfl, ?_⟩
  (repeat' (first | (with_reducible first | exact Below.refl _ _ | assumption | exact Bw.out (by assumption) | refine bw_alloc ?_ _ | refine bw_step ?_ (by assumption) | refine Below.alloc ?_ ?_ _ | refine Below.drew ?_ | refine below_drewN ?_ _ | refine Below.setCell ?_ ?_ _ | refine below_step ?_ (by assumption) ?_ | exact Nat.le_refl _) | omega | (simp; omega) | (simp; done)))
set_option maxHeartbeats 800000 in
theorem R_floor_any (n d : Int) (w : World) (h1 : -1000000000000000000 ≤ n) (h2 : n ≤ 1000000000000000000) (h3 : 1 ≤ d) (h4 : d ≤ 1000000) :
  Calls Tryz.prog 108 #[.int .i64 n, .int .i64 d] w fun e w' => e = .returned (.int .i64 (n / d)) ∧ w = w' := by
 by_cases hn : 0 ≤ n
 ·
  have hr := Int.emod_nonneg n (show d ≠ 0 by omega)
  have hd : decide (n % d < 0) = false := by simp; omega
  go_enter Tryz.func108, Tryz.ntmps108
  go_wp2_with fail
  go_ret
  exact ⟨rfl, rfl⟩
 ·
  obtain ⟨k1, k2, k3, k4, k5, k6⟩ := floor_neg (n := n) (d := d) (by omega) h3
  have e := Int.tmod_def n d
  have e2 : d * n.tdiv d = n.tdiv d * d := Int.mul_comm _ _
  by_cases hlt : n < n.tdiv d * d
  ·
   have hd : decide (n.tmod d < 0) = true := by simp; omega
   have m1 := Lib.hid (k5 hlt).1
   clear k5 k6 e e2
   go_enter Tryz.func108, Tryz.ntmps108
   go_wp2_with fail
   go_ret
   exact ⟨ret_int (by rw [← m1.out]), rfl⟩
  ·
   have hd : decide (n.tmod d < 0) = false := by simp; omega
   have m1 := Lib.hid (k6 (by omega)).1
   clear k5 k6 e e2
   go_enter Tryz.func108, Tryz.ntmps108
   go_wp2_with fail
   go_ret
   exact ⟨ret_int (by rw [← m1.out]), rfl⟩
theorem floor_facts {n d : Int} (h1 : -1000000000000000000 ≤ n) (h2 : n ≤ 1000000000000000000) (h3 : 1 ≤ d) :
  -1000000000000000001 ≤ n / d ∧ n / d ≤ 1000000000000000001 ∧ n / d * d ≤ n ∧ n < n / d * d + d ∧ n - n / d * d = n % d := by
 have g1 := Int.mul_ediv_add_emod n d
 have g2 := Int.emod_lt_of_pos n (show 0 < d by omega)
 have g3 := Int.emod_nonneg n (show d ≠ 0 by omega)
 have g4 : d * (n / d) = n / d * d := Int.mul_comm _ _
 have g5 := rnd_bound 1 (n := n) h3
 have g6 : rnd 1 n d = n / d := rnd_dn rfl rfl (nxB_1 _ _ _)
 omega
set_option maxHeartbeats 1600000 in
theorem R_rounded1 (n d : Int) (w : World) (h1 : -1000000000000000000 ≤ n) (h2 : n ≤ 1000000000000000000) (h3 : 1 ≤ d) (h4 : d ≤ 1000000) :
  Calls Tryz.prog 68 #[.int .i64 n, .int .i64 d, .int .i64 1] w fun e w' => e = .returned (.int .i64 (rnd 1 n d)) ∧ w = w' := by
 obtain ⟨f1, f2, f3, f4, f5⟩ := floor_facts h1 h2 h3
 have a1 : rnd 1 n d = n / d := rnd_dn rfl rfl (nxB_1 _ _ _)
 rw [a1]
 clear f5 a1
 go_enter Tryz.func68, Tryz.ntmps68
 go_wp2_with fail
 refine (R_floor_any n d _ h1 h2 h3 h4).mono ?_
 rintro e w' ⟨rfl, rfl⟩
 go_wp2_with fail
 go_ret
 exact ⟨rfl, rfl⟩
set_option maxHeartbeats 1600000 in
theorem R_rounded2 (n d : Int) (w : World) (h1 : -1000000000000000000 ≤ n) (h2 : n ≤ 1000000000000000000) (h3 : 1 ≤ d) (h4 : d ≤ 1000000) :
  Calls Tryz.prog 68 #[.int .i64 n, .int .i64 d, .int .i64 2] w fun e w' => e = .returned (.int .i64 (rnd 2 n d)) ∧ w = w' := by
 obtain ⟨f1, f2, f3, f4, f5⟩ := floor_facts h1 h2 h3
 by_cases hr : 0 < n % d
 ·
  have a1 : rnd 2 n d = n / d + 1 := rnd_up rfl rfl (by rw [nxB_2]; simpa using hr)
  rw [a1]
  have hp : 0 < n - n / d * d := by omega
  clear f5 a1 hr
  go_enter Tryz.func68, Tryz.ntmps68
  go_wp2_with fail
  refine (R_floor_any n d _ h1 h2 h3 h4).mono ?_
  rintro e w' ⟨rfl, rfl⟩
  go_wp2_with fail
  go_ret
  exact ⟨rfl, rfl⟩
 ·
  have a1 : rnd 2 n d = n / d := rnd_dn rfl rfl (by rw [nxB_2]; simpa using hr)
  rw [a1]
  have hp : n - n / d * d ≤ 0 := by omega
  clear f5 a1 hr
  go_enter Tryz.func68, Tryz.ntmps68
  go_wp2_with fail
  refine (R_floor_any n d _ h1 h2 h3 h4).mono ?_
  rintro e w' ⟨rfl, rfl⟩
  go_wp2_with fail
  go_ret
  exact ⟨rfl, rfl⟩
set_option maxHeartbeats 3200000 in
theorem R_rounded3 (n d : Int) (w : World) (h1 : -1000000000000000000 ≤ n) (h2 : n ≤ 1000000000000000000) (h3 : 1 ≤ d) (h4 : d ≤ 1000000) :
  Calls Tryz.prog 68 #[.int .i64 n, .int .i64 d, .int .i64 3] w fun e w' => e = .returned (.int .i64 (rnd 3 n d)) ∧ w = w' := by
 obtain ⟨f1, f2, f3, f4, f5⟩ := floor_facts h1 h2 h3
 by_cases c1 : d < 2 * (n % d)
 ·
  have a1 : rnd 3 n d = n / d + 1 := rnd_up rfl rfl (by rw [nxB_3]; simp; omega)
  rw [a1]
  have hp : d - (n - n / d * d) < n - n / d * d := by omega
  clear f5 a1 c1
  go_enter Tryz.func68, Tryz.ntmps68
  go_wp2_with fail
  refine (R_floor_any n d _ h1 h2 h3 h4).mono ?_
  rintro e w' ⟨rfl, rfl⟩
  go_wp2_with fail
  go_ret
  exact ⟨rfl, rfl⟩
 ·
  by_cases c2 : 2 * (n % d) = d
  ·
   have hp : (n - n / d * d == d - (n - n / d * d)) = true := by simp; omega
   have hp1 : n - n / d * d ≤ d - (n - n / d * d) := by omega
   by_cases c3 : n / d % 2 = 1
   ·
    have a1 : rnd 3 n d = n / d + 1 := rnd_up rfl rfl (by rw [nxB_3]; simp; omega)
    rw [a1]
    have hq : ((n / d).tmod 2 != 0) = true := by rw [bne_iff_ne]; intro h; have := Int.dvd_of_tmod_eq_zero h; omega
    have hq2 : (n / d % 2 != 0) = true := by rw [bne_iff_ne]; omega
    clear f5 a1 c1 c2 c3
    go_enter Tryz.func68, Tryz.ntmps68
    go_wp2_with fail
    refine (R_floor_any n d _ h1 h2 h3 h4).mono ?_
    rintro e w' ⟨rfl, rfl⟩
    go_wp2_with fail
    go_ret
    exact ⟨rfl, rfl⟩
   ·
    have a1 : rnd 3 n d = n / d := rnd_dn rfl rfl (by rw [nxB_3]; simp; omega)
    rw [a1]
    have hq : ((n / d).tmod 2 != 0) = false := by rw [bne_eq_false_iff_eq]; exact Int.tmod_eq_zero_of_dvd (by omega)
    have hq2 : (n / d % 2 != 0) = false := by rw [bne_eq_false_iff_eq]; omega
    clear f5 a1 c1 c2 c3
    go_enter Tryz.func68, Tryz.ntmps68
    go_wp2_with fail
    refine (R_floor_any n d _ h1 h2 h3 h4).mono ?_
    rintro e w' ⟨rfl, rfl⟩
    go_wp2_with fail
    go_ret
    exact ⟨rfl, rfl⟩
  ·
   have a1 : rnd 3 n d = n / d := rnd_dn rfl rfl (by rw [nxB_3]; simp; omega)
   rw [a1]
   have hp : (n - n / d * d == d - (n - n / d * d)) = false := by simp; omega
   have hp1 : n - n / d * d ≤ d - (n - n / d * d) := by omega
   clear f5 a1 c1 c2
   go_enter Tryz.func68, Tryz.ntmps68
   go_wp2_with fail
   refine (R_floor_any n d _ h1 h2 h3 h4).mono ?_
   rintro e w' ⟨rfl, rfl⟩
   go_wp2_with fail
   go_ret
   exact ⟨rfl, rfl⟩
theorem R_rounded_any (n d way : Int) (w : World) (h1 : -1000000000000000000 ≤ n) (h2 : n ≤ 1000000000000000000) (h3 : 1 ≤ d) (h4 : d ≤ 1000000) (h5 : 1 ≤ way) (h6 : way ≤ 3) :
  Calls Tryz.prog 68 #[.int .i64 n, .int .i64 d, .int .i64 way] w fun e w' => e = .returned (.int .i64 (rnd way n d)) ∧ w = w' := by
 obtain rfl | rfl | rfl : way = 1 ∨ way = 2 ∨ way = 3 := by omega
 ·
  exact R_rounded1 n d w h1 h2 h3 h4
 ·
  exact R_rounded2 n d w h1 h2 h3 h4
 ·
  exact R_rounded3 n d w h1 h2 h3 h4
set_option maxHeartbeats 1600000 in
theorem R_round_any (a b way : Int) (w : World) :
  Calls Tryz.prog 40 #[.agg #[.int .i64 a, .int .i64 b], .int .i64 way] w fun e w' =>
   e = .returned (.tuple #[.int .i64 (rdVal a b way), .int .i64 (rdErr a b way)]) ∧ Below w.heap.size w w' := by
 by_cases h : rdP a b way
 ·
  obtain ⟨o1, o2⟩ := rd_ok h
  obtain ⟨v, h1, h2⟩ := h
  have e1 := vld_true v
  obtain ⟨p1, p2, p3, p4, _⟩ := v
  rw [o1, o2]
  clear o1 o2
  go_enter Tryz.func40, Tryz.ntmps40
  go_wp2_with fail
  refine (R_valid_any _ _ _).mono ?_
  rintro e w1 ⟨rfl, hb1⟩
  have Ra : Row w1 w.heap.size [.int .i64 a, .int .i64 b] := by (repeat' (first | (with_reducible assumption) | (with_reducible refine Row.new' _ _ _ (by first | rfl | (simp; done) | omega)) | (with_reducible refine Row.alloc ?_ _) | (with_reducible refine Row.drew ?_) | (with_reducible refine Row.drewN ?_ _) | (with_reducible refine Row.step ?_ (by with_reducible assumption))))
  have a0 := Ra.cell 0 rfl
  have a1 := Ra.cell 1 rfl
  go_wp2_with fail
  refine (R_rounded_any _ _ _ _ (by omega) (by omega) (by omega) (by omega) h1 h2).mono ?_
  rintro e w' ⟨rfl, rfl⟩
  go_wp2_with fail
  go_ret2
  refine ⟨rfl, ?_⟩
  (repeat' (first | (with_reducible first | exact Below.refl _ _ | assumption | exact Bw.out (by assumption) | refine bw_alloc ?_ _ | refine bw_step ?_ (by assumption) | refine Below.alloc ?_ ?_ _ | refine Below.drew ?_ | refine below_drewN ?_ _ | refine Below.setCell ?_ ?_ _ | refine below_step ?_ (by assumption) ?_ | exact Nat.le_refl _) | omega | (simp; omega) | (simp; done)))
 ·
  obtain ⟨o1, o2⟩ := rd_not h
  rw [o1, o2]
  clear o1 o2
  by_cases v : vldP a b
  ·
   have e1 := vld_true v
   have hw : way < 1 ∨ (1 ≤ way ∧ 3 < way) := by have h' : ¬ (1 ≤ way ∧ way ≤ 3) := fun hh => h ⟨v, hh⟩; omega
   clear h
   rcases hw with hw | ⟨hw, hw2⟩
   all_goals
    go_enter Tryz.func40, Tryz.ntmps40
    go_wp2_with fail
    refine (R_valid_any _ _ _).mono ?_
    rintro e w1 ⟨rfl, hb1⟩
    have Ra : Row w1 w.heap.size [.int .i64 a, .int .i64 b] := by (repeat' (first | (with_reducible assumption) | (with_reducible refine Row.new' _ _ _ (by first | rfl | (simp; done) | omega)) | (with_reducible refine Row.alloc ?_ _) | (with_reducible refine Row.drew ?_) | (with_reducible refine Row.drewN ?_ _) | (with_reducible refine Row.step ?_ (by with_reducible assumption))))
    have a0 := Ra.cell 0 rfl
    have a1 := Ra.cell 1 rfl
    go_wp2_with fail
    go_ret2
    refine ⟨rfl, ?_⟩
    (repeat' (first | (with_reducible first | exact Below.refl _ _ | assumption | exact Bw.out (by assumption) | refine bw_alloc ?_ _ | refine bw_step ?_ (by assumption) | refine Below.alloc ?_ ?_ _ | refine Below.drew ?_ | refine below_drewN ?_ _ | refine Below.setCell ?_ ?_ _ | refine below_step ?_ (by assumption) ?_ | exact Nat.le_refl _) | omega | (simp; omega) | (simp; done)))
  ·
   have e1 := vld_false v
   go_enter Tryz.func40, Tryz.ntmps40
   go_wp2_with fail
   refine (R_valid_any _ _ _).mono ?_
   rintro e w1 ⟨rfl, hb1⟩
   have Ra : Row w1 w.heap.size [.int .i64 a, .int .i64 b] := by (repeat' (first | (with_reducible assumption) | (with_reducible refine Row.new' _ _ _ (by first | rfl | (simp; done) | omega)) | (with_reducible refine Row.alloc ?_ _) | (with_reducible refine Row.drew ?_) | (with_reducible refine Row.drewN ?_ _) | (with_reducible refine Row.step ?_ (by with_reducible assumption))))
   have a0 := Ra.cell 0 rfl
   have a1 := Ra.cell 1 rfl
   go_wp2_with fail
   go_ret2
   refine ⟨rfl, ?_⟩
   (repeat' (first | (with_reducible first | exact Below.refl _ _ | assumption | exact Bw.out (by assumption) | refine bw_alloc ?_ _ | refine bw_step ?_ (by assumption) | refine Below.alloc ?_ ?_ _ | refine Below.drew ?_ | refine below_drewN ?_ _ | refine Below.setCell ?_ ?_ _ | refine below_step ?_ (by assumption) ?_ | exact Nat.le_refl _) | omega | (simp; omega) | (simp; done)))
set_option maxHeartbeats 3200000 in
theorem R_part_any (n a b way : Int) (w : World) :
  Calls Tryz.prog 43 #[.int .i64 n, .agg #[.int .i64 a, .int .i64 b], .int .i64 way] w fun e w' =>
   e = .returned (.tuple #[.int .i64 (ptVal n a b way), .int .i64 (ptErr n a b way)]) ∧ Below w.heap.size w w' := by
 by_cases h : ptP n a b way
 ·
  obtain ⟨v, ⟨h1, h2⟩, h3, h4⟩ := id h
  have e1 := vld_true v
  obtain ⟨p1, p2, p3, p4, _⟩ := v
  obtain ⟨q1, q2⟩ := mul_le_1e15 (a := n) (b := a) (x := 1000000000) (y := 1000000000) (by omega) (by omega) (by omega) (by omega)
  by_cases hi : ptIn n a b way
  ·
   obtain ⟨o1, o2⟩ := pt_ok h hi
   obtain ⟨i1, i2⟩ := hi
   rw [o1, o2]
   clear o1 o2 h
   go_enter Tryz.func43, Tryz.ntmps43
   go_wp2_with fail
   refine (R_valid_any _ _ _).mono ?_
   rintro e w1 ⟨rfl, hb1⟩
   have Ra : Row w1 w.heap.size [.int .i64 a, .int .i64 b] := by (repeat' (first | (with_reducible assumption) | (with_reducible refine Row.new' _ _ _ (by first | rfl | (simp; done) | omega)) | (with_reducible refine Row.alloc ?_ _) | (with_reducible refine Row.drew ?_) | (with_reducible refine Row.drewN ?_ _) | (with_reducible refine Row.step ?_ (by with_reducible assumption))))
   have a0 := Ra.cell 0 rfl
   have a1 := Ra.cell 1 rfl
   go_wp2_with fail
   refine (R_rounded_any _ _ _ _ (by omega) (by omega) (by omega) (by omega) h1 h2).mono ?_
   rintro e w' ⟨rfl, rfl⟩
   go_wp2_with fail
   go_ret2
   refine ⟨rfl, ?_⟩
   (repeat' (first | (with_reducible first | exact Below.refl _ _ | assumption | exact Bw.out (by assumption) | refine bw_alloc ?_ _ | refine bw_step ?_ (by assumption) | refine Below.alloc ?_ ?_ _ | refine Below.drew ?_ | refine below_drewN ?_ _ | refine Below.setCell ?_ ?_ _ | refine below_step ?_ (by assumption) ?_ | exact Nat.le_refl _) | omega | (simp; omega) | (simp; done)))
  ·
   obtain ⟨o1, o2⟩ := pt_far h hi
   rw [o1, o2]
   clear o1 o2 h
   have hi' : rnd way (n * a) b < -1000000000 ∨ (-1000000000 ≤ rnd way (n * a) b ∧ 1000000000 < rnd way (n * a) b) := by unfold ptIn at hi; omega
   clear hi
   rcases hi' with i1 | ⟨i1, i2⟩
   all_goals
    go_enter Tryz.func43, Tryz.ntmps43
    go_wp2_with fail
    refine (R_valid_any _ _ _).mono ?_
    rintro e w1 ⟨rfl, hb1⟩
    have Ra : Row w1 w.heap.size [.int .i64 a, .int .i64 b] := by (repeat' (first | (with_reducible assumption) | (with_reducible refine Row.new' _ _ _ (by first | rfl | (simp; done) | omega)) | (with_reducible refine Row.alloc ?_ _) | (with_reducible refine Row.drew ?_) | (with_reducible refine Row.drewN ?_ _) | (with_reducible refine Row.step ?_ (by with_reducible assumption))))
    have a0 := Ra.cell 0 rfl
    have a1 := Ra.cell 1 rfl
    go_wp2_with fail
    refine (R_rounded_any _ _ _ _ (by omega) (by omega) (by omega) (by omega) h1 h2).mono ?_
    rintro e w' ⟨rfl, rfl⟩
    go_wp2_with fail
    go_ret2
    refine ⟨rfl, ?_⟩
    (repeat' (first | (with_reducible first | exact Below.refl _ _ | assumption | exact Bw.out (by assumption) | refine bw_alloc ?_ _ | refine bw_step ?_ (by assumption) | refine Below.alloc ?_ ?_ _ | refine Below.drew ?_ | refine below_drewN ?_ _ | refine Below.setCell ?_ ?_ _ | refine below_step ?_ (by assumption) ?_ | exact Nat.le_refl _) | omega | (simp; omega) | (simp; done)))
 ·
  obtain ⟨o1, o2⟩ := pt_not h
  rw [o1, o2]
  clear o1 o2
  by_cases v : vldP a b
  ·
   have e1 := vld_true v
   have hw : n < -1000000000 ∨ (-1000000000 ≤ n ∧ 1000000000 < n) ∨ (-1000000000 ≤ n ∧ n ≤ 1000000000 ∧ way < 1) ∨ (-1000000000 ≤ n ∧ n ≤ 1000000000 ∧ 1 ≤ way ∧ 3 < way) := by have h' : ¬ ((1 ≤ way ∧ way ≤ 3) ∧ -1000000000 ≤ n ∧ n ≤ 1000000000) := fun hh => h ⟨v, hh⟩; omega
   clear h
   rcases hw with hw | ⟨hw, hw2⟩ | ⟨hw, hw2, hw3⟩ | ⟨hw, hw2, hw3, hw4⟩
   all_goals
    go_enter Tryz.func43, Tryz.ntmps43
    go_wp2_with fail
    refine (R_valid_any _ _ _).mono ?_
    rintro e w1 ⟨rfl, hb1⟩
    have Ra : Row w1 w.heap.size [.int .i64 a, .int .i64 b] := by (repeat' (first | (with_reducible assumption) | (with_reducible refine Row.new' _ _ _ (by first | rfl | (simp; done) | omega)) | (with_reducible refine Row.alloc ?_ _) | (with_reducible refine Row.drew ?_) | (with_reducible refine Row.drewN ?_ _) | (with_reducible refine Row.step ?_ (by with_reducible assumption))))
    have a0 := Ra.cell 0 rfl
    have a1 := Ra.cell 1 rfl
    go_wp2_with fail
    go_ret2
    refine ⟨rfl, ?_⟩
    (repeat' (first | (with_reducible first | exact Below.refl _ _ | assumption | exact Bw.out (by assumption) | refine bw_alloc ?_ _ | refine bw_step ?_ (by assumption) | refine Below.alloc ?_ ?_ _ | refine Below.drew ?_ | refine below_drewN ?_ _ | refine Below.setCell ?_ ?_ _ | refine below_step ?_ (by assumption) ?_ | exact Nat.le_refl _) | omega | (simp; omega) | (simp; done)))
  ·
   have e1 := vld_false v
   have hw : n < -1000000000 ∨ (-1000000000 ≤ n ∧ 1000000000 < n) ∨ (-1000000000 ≤ n ∧ n ≤ 1000000000) := by omega
   clear h
   rcases hw with hw | ⟨hw, hw2⟩ | ⟨hw, hw2⟩
   all_goals
    go_enter Tryz.func43, Tryz.ntmps43
    go_wp2_with fail
    refine (R_valid_any _ _ _).mono ?_
    rintro e w1 ⟨rfl, hb1⟩
    have Ra : Row w1 w.heap.size [.int .i64 a, .int .i64 b] := by (repeat' (first | (with_reducible assumption) | (with_reducible refine Row.new' _ _ _ (by first | rfl | (simp; done) | omega)) | (with_reducible refine Row.alloc ?_ _) | (with_reducible refine Row.drew ?_) | (with_reducible refine Row.drewN ?_ _) | (with_reducible refine Row.step ?_ (by with_reducible assumption))))
    have a0 := Ra.cell 0 rfl
    have a1 := Ra.cell 1 rfl
    go_wp2_with fail
    go_ret2
    refine ⟨rfl, ?_⟩
    (repeat' (first | (with_reducible first | exact Below.refl _ _ | assumption | exact Bw.out (by assumption) | refine bw_alloc ?_ _ | refine bw_step ?_ (by assumption) | refine Below.alloc ?_ ?_ _ | refine Below.drew ?_ | refine below_drewN ?_ _ | refine Below.setCell ?_ ?_ _ | refine below_step ?_ (by assumption) ?_ | exact Nat.le_refl _) | omega | (simp; omega) | (simp; done)))
end Go.Proofs.YtcmodmchnokmgaaGreat
