/-
  The walk of the reference implementation's Part at the way 'up' (for seats whose program holds no other operation on ratios).
-/
import Derived.Test.YtjmlkdopbiedaaaRatPt
import Derived.Test.YtjmlkdopbiedaaaRatR
namespace Go.Proofs.Ytjmlkdopbiedaaa
set_option linter.unusedSimpArgs false
set_option linter.unusedVariables false
open Go.RowKit

set_option maxHeartbeats 800000 in
theorem R_floor_any (n d : Int) (w : World) (h1 : -1000000000000000000 ≤ n) (h2 : n ≤ 1000000000000000000) (h3 : 1 ≤ d) (h4 : d ≤ 1000000) :
    Calls Try.prog 53 #[.int .i64 n, .int .i64 d] w fun e w' => e = .returned (.int .i64 (n / d)) ∧ w = w' := by
  by_cases hn : 0 ≤ n
  · have hr := Int.emod_nonneg n (show d ≠ 0 by omega)
    have hd : decide (n % d < 0) = false := by simp; omega
    go_enter Try.func53, Try.ntmps53
    go_wp2_with fail
    go_ret
    exact ⟨rfl, rfl⟩
  · obtain ⟨k1, k2, k3, k4, k5, k6⟩ := floor_neg (n := n) (d := d) (by omega) h3
    have e := Int.tmod_def n d
    have e2 : d * n.tdiv d = n.tdiv d * d := Int.mul_comm _ _
    by_cases hlt : n < n.tdiv d * d
    · have hd : decide (n.tmod d < 0) = true := by simp; omega
      have m1 := Lib.hid (k5 hlt).1
      clear k5 k6 e e2
      go_enter Try.func53, Try.ntmps53
      go_wp2_with fail
      go_ret
      exact ⟨ret_int (by rw [← m1.out]), rfl⟩
    · have hd : decide (n.tmod d < 0) = false := by simp; omega
      have m1 := Lib.hid (k6 (by omega)).1
      clear k5 k6 e e2
      go_enter Try.func53, Try.ntmps53
      go_wp2_with fail
      go_ret
      exact ⟨ret_int (by rw [← m1.out]), rfl⟩


theorem floor_facts {n d : Int} (h1 : -1000000000000000000 ≤ n) (h2 : n ≤ 1000000000000000000) (h3 : 1 ≤ d) :
    -1000000000000000001 ≤ n / d ∧ n / d ≤ 1000000000000000001 ∧ n / d * d ≤ n ∧ n < n / d * d + d ∧ n - n / d * d = n % d := by
  have g1 := Int.mul_ediv_add_emod n d
  have g2 := Int.emod_lt_of_pos n (show 0 < d by omega)
  have g3 := Int.emod_nonneg n (show d ≠ 0 by omega)
  have g4 : d * (n / d) = n / d * d := Int.mul_comm _ _
  have g5 := rnd_bound 1 (n := n) h3
  have g6 : rnd 1 n d = n / d := rnd_dn rfl rfl (nxB_1 _ _ _)
  omega

set_option maxHeartbeats 1600000 in
theorem R_rounded2 (n d : Int) (w : World) (h1 : -1000000000000000000 ≤ n) (h2 : n ≤ 1000000000000000000) (h3 : 1 ≤ d) (h4 : d ≤ 1000000) :
    Calls Try.prog 45 #[.int .i64 n, .int .i64 d, .int .i64 2] w fun e w' => e = .returned (.int .i64 (rnd 2 n d)) ∧ w = w' := by
  obtain ⟨f1, f2, f3, f4, f5⟩ := floor_facts h1 h2 h3
  by_cases hr : 0 < n % d
  · have a1 : rnd 2 n d = n / d + 1 := rnd_up rfl rfl (by rw [nxB_2]; simpa using hr)
    rw [a1]
    have hp : 0 < n - n / d * d := by omega
    clear f5 a1 hr
    go_enter Try.func45, Try.ntmps45
    go_wp2_with fail
    refine (R_floor_any n d _ h1 h2 h3 h4).mono ?_
    rintro e w' ⟨rfl, rfl⟩
    go_wp2_with fail
    go_ret
    exact ⟨rfl, rfl⟩
  · have a1 : rnd 2 n d = n / d := rnd_dn rfl rfl (by rw [nxB_2]; simpa using hr)
    rw [a1]
    have hp : n - n / d * d ≤ 0 := by omega
    clear f5 a1 hr
    go_enter Try.func45, Try.ntmps45
    go_wp2_with fail
    refine (R_floor_any n d _ h1 h2 h3 h4).mono ?_
    rintro e w' ⟨rfl, rfl⟩
    go_wp2_with fail
    go_ret
    exact ⟨rfl, rfl⟩

set_option maxHeartbeats 3200000 in
theorem R_part2_any (n a b : Int) (w : World) :
    Calls Try.prog 37 #[.int .i64 n, .agg #[.int .i64 a, .int .i64 b], .int .i64 2] w fun e w' =>
      e = .returned (.tuple #[.int .i64 (ptVal n a b 2), .int .i64 (ptErr n a b 2)]) ∧ Below w.heap.size w w' := by
  by_cases h : ptP n a b 2
  · obtain ⟨v, ⟨h1, h2⟩, h3, h4⟩ := id h
    have e1 := vld_true v
    obtain ⟨p1, p2, p3, p4, _⟩ := v
    obtain ⟨q1, q2⟩ := mul_le_1e15 (a := n) (b := a) (x := 1000000000) (y := 1000000000) (by omega) (by omega) (by omega) (by omega)
    by_cases hi : ptIn n a b 2
    · obtain ⟨o1, o2⟩ := pt_ok h hi
      obtain ⟨i1, i2⟩ := hi
      rw [o1, o2]
      clear o1 o2 h
      go_enter Try.func37, Try.ntmps37
      go_wp2_with fail
      refine (R_valid_any _ _ _).mono ?_
      rintro e w1 ⟨rfl, hb1⟩
      have Ra : Row w1 w.heap.size [.int .i64 a, .int .i64 b] := by (repeat' (first | (with_reducible assumption) | (with_reducible refine Row.new' _ _ _ (by first | rfl | (simp; done) | omega)) | (with_reducible refine Row.alloc ?_ _) | (with_reducible refine Row.drew ?_) | (with_reducible refine Row.drewN ?_ _) | (with_reducible refine Row.step ?_ (by with_reducible assumption))))
      have a0 := Ra.cell 0 rfl
      have a1 := Ra.cell 1 rfl
      go_wp2_with fail
      refine (R_rounded2 _ _ _ (by omega) (by omega) (by omega) (by omega)).mono ?_
      rintro e w' ⟨rfl, rfl⟩
      go_wp2_with fail
      go_ret2
      refine ⟨rfl, ?_⟩
      (repeat' (first | (with_reducible exact Below.refl _ _) | (with_reducible assumption) | (with_reducible exact Bw.out (by with_reducible assumption)) | (with_reducible refine bw_alloc ?_ _) | (with_reducible refine bw_step ?_ (by with_reducible assumption)) | (with_reducible refine Below.alloc ?_ ?_ _) | (with_reducible refine Below.drew ?_) | (with_reducible refine below_drewN ?_ _) | (with_reducible refine Below.setCell ?_ ?_ _) | (with_reducible refine below_step ?_ (by with_reducible assumption) ?_) | (with_reducible exact Nat.le_refl _) | omega | (simp; omega) | (simp; done)))
    · obtain ⟨o1, o2⟩ := pt_far h hi
      rw [o1, o2]
      clear o1 o2 h
      have hi' : rnd 2 (n * a) b < -1000000000 ∨ (-1000000000 ≤ rnd 2 (n * a) b ∧ 1000000000 < rnd 2 (n * a) b) := by unfold ptIn at hi; omega
      clear hi
      rcases hi' with i1 | ⟨i1, i2⟩
      all_goals
        go_enter Try.func37, Try.ntmps37
        go_wp2_with fail
        refine (R_valid_any _ _ _).mono ?_
        rintro e w1 ⟨rfl, hb1⟩
        have Ra : Row w1 w.heap.size [.int .i64 a, .int .i64 b] := by (repeat' (first | (with_reducible assumption) | (with_reducible refine Row.new' _ _ _ (by first | rfl | (simp; done) | omega)) | (with_reducible refine Row.alloc ?_ _) | (with_reducible refine Row.drew ?_) | (with_reducible refine Row.drewN ?_ _) | (with_reducible refine Row.step ?_ (by with_reducible assumption))))
        have a0 := Ra.cell 0 rfl
        have a1 := Ra.cell 1 rfl
        go_wp2_with fail
        refine (R_rounded2 _ _ _ (by omega) (by omega) (by omega) (by omega)).mono ?_
        rintro e w' ⟨rfl, rfl⟩
        go_wp2_with fail
        go_ret2
        refine ⟨rfl, ?_⟩
        (repeat' (first | (with_reducible exact Below.refl _ _) | (with_reducible assumption) | (with_reducible exact Bw.out (by with_reducible assumption)) | (with_reducible refine bw_alloc ?_ _) | (with_reducible refine bw_step ?_ (by with_reducible assumption)) | (with_reducible refine Below.alloc ?_ ?_ _) | (with_reducible refine Below.drew ?_) | (with_reducible refine below_drewN ?_ _) | (with_reducible refine Below.setCell ?_ ?_ _) | (with_reducible refine below_step ?_ (by with_reducible assumption) ?_) | (with_reducible exact Nat.le_refl _) | omega | (simp; omega) | (simp; done)))
  · obtain ⟨o1, o2⟩ := pt_not h
    rw [o1, o2]
    clear o1 o2
    by_cases v : vldP a b
    · have e1 := vld_true v
      have hw : n < -1000000000 ∨ (-1000000000 ≤ n ∧ 1000000000 < n) := by have h' : ¬ (-1000000000 ≤ n ∧ n ≤ 1000000000) := fun hh => h ⟨v, ⟨by omega, by omega⟩, hh⟩; omega
      clear h
      rcases hw with hw | ⟨hw, hw2⟩
      all_goals
        go_enter Try.func37, Try.ntmps37
        go_wp2_with fail
        refine (R_valid_any _ _ _).mono ?_
        rintro e w1 ⟨rfl, hb1⟩
        have Ra : Row w1 w.heap.size [.int .i64 a, .int .i64 b] := by (repeat' (first | (with_reducible assumption) | (with_reducible refine Row.new' _ _ _ (by first | rfl | (simp; done) | omega)) | (with_reducible refine Row.alloc ?_ _) | (with_reducible refine Row.drew ?_) | (with_reducible refine Row.drewN ?_ _) | (with_reducible refine Row.step ?_ (by with_reducible assumption))))
        have a0 := Ra.cell 0 rfl
        have a1 := Ra.cell 1 rfl
        go_wp2_with fail
        go_ret2
        refine ⟨rfl, ?_⟩
        (repeat' (first | (with_reducible exact Below.refl _ _) | (with_reducible assumption) | (with_reducible exact Bw.out (by with_reducible assumption)) | (with_reducible refine bw_alloc ?_ _) | (with_reducible refine bw_step ?_ (by with_reducible assumption)) | (with_reducible refine Below.alloc ?_ ?_ _) | (with_reducible refine Below.drew ?_) | (with_reducible refine below_drewN ?_ _) | (with_reducible refine Below.setCell ?_ ?_ _) | (with_reducible refine below_step ?_ (by with_reducible assumption) ?_) | (with_reducible exact Nat.le_refl _) | omega | (simp; omega) | (simp; done)))
    · have e1 := vld_false v
      have hw : n < -1000000000 ∨ (-1000000000 ≤ n ∧ 1000000000 < n) ∨ (-1000000000 ≤ n ∧ n ≤ 1000000000) := by omega
      clear h
      rcases hw with hw | ⟨hw, hw2⟩ | ⟨hw, hw2⟩
      all_goals
        go_enter Try.func37, Try.ntmps37
        go_wp2_with fail
        refine (R_valid_any _ _ _).mono ?_
        rintro e w1 ⟨rfl, hb1⟩
        have Ra : Row w1 w.heap.size [.int .i64 a, .int .i64 b] := by (repeat' (first | (with_reducible assumption) | (with_reducible refine Row.new' _ _ _ (by first | rfl | (simp; done) | omega)) | (with_reducible refine Row.alloc ?_ _) | (with_reducible refine Row.drew ?_) | (with_reducible refine Row.drewN ?_ _) | (with_reducible refine Row.step ?_ (by with_reducible assumption))))
        have a0 := Ra.cell 0 rfl
        have a1 := Ra.cell 1 rfl
        go_wp2_with fail
        go_ret2
        refine ⟨rfl, ?_⟩
        (repeat' (first | (with_reducible exact Below.refl _ _) | (with_reducible assumption) | (with_reducible exact Bw.out (by with_reducible assumption)) | (with_reducible refine bw_alloc ?_ _) | (with_reducible refine bw_step ?_ (by with_reducible assumption)) | (with_reducible refine Below.alloc ?_ ?_ _) | (with_reducible refine Below.drew ?_) | (with_reducible refine below_drewN ?_ _) | (with_reducible refine Below.setCell ?_ ?_ _) | (with_reducible refine below_step ?_ (by with_reducible assumption) ?_) | (with_reducible exact Nat.le_refl _) | omega | (simp; omega) | (simp; done)))

end Go.Proofs.Ytjmlkdopbiedaaa
