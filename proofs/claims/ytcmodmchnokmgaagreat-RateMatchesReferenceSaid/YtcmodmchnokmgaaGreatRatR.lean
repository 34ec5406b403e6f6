/-
 The walk of the reference's Valid for ratios.
-/
import Derived.Test.YtcmodmchnokmgaaGreatRatY
import Derived.Deep.LoopGhost
namespace Go.Proofs.YtcmodmchnokmgaaGreat
set_option linter.unusedSimpArgs false
set_option linter.unusedVariables false
open Go.RowKit
set_option maxHeartbeats 400000 in
theorem R_abs_any (n : Int) (w : World) (h1 : -4611686018427387904 ≤ n) (h2 : n ≤ 4611686018427387904) :
  Calls Tryz.prog 107 #[.int .i64 n] w fun e w' => e = .returned (.int .i64 (absI n)) ∧ w = w' := by
 by_cases hn : n < 0
 ·
  have e : absI n = -n := if_pos hn
  rw [e]
  go_enter Tryz.func107, Tryz.ntmps107
  go_wp2
  go_ret
  exact ⟨rfl, rfl⟩
 ·
  have e : absI n = n := if_neg hn
  rw [e]
  go_enter Tryz.func107, Tryz.ntmps107
  go_wp2
  go_ret
  exact ⟨rfl, rfl⟩
set_option maxHeartbeats 400000 in
theorem R_gcd_nat (a b : Nat) (w : World) (ha : a ≤ 4611686018427387904) (hb : b ≤ 4611686018427387904) :
  Calls Tryz.prog 106 #[.int .i64 a, .int .i64 b] w fun e w' => e = .returned (.int .i64 (Nat.gcd a b : Nat)) ∧ w = w' := by
 have hG : ∃ g, g = Nat.gcd a b := ⟨_, rfl⟩
 obtain ⟨g, hg⟩ := hG
 rw [← hg]
 have HG := Lib.hid hg
 clear hg
 go_enter Tryz.func106, Tryz.ntmps106
 go_wp2
 go_loop [0, 1, 5] (fun u v _ => ∃ x y : Nat, x ≤ 4611686018427387904 ∧ y ≤ 4611686018427387904 ∧ u = .int .i64 x ∧ v = .int .i64 y ∧ Hid (g = Nat.gcd x y)) (fun _ v _ => (intOf v).toNat)
 case atStart => exact ⟨a, b, ha, hb, rfl, rfl, HG⟩
 case round =>
  obtain ⟨x, y, hx, hy, rfl, rfl, hxy⟩ := hrel
  by_cases h0 : y = 0
  ·
   subst h0
   go_wp2
   go_ret
   exact ⟨ret_int (by rw [hxy.out]; simp), rfl⟩
  ·
   have hm : x % y < y := Nat.mod_lt _ (by omega)
   go_wp2
   go_round
   case rel => exact ⟨y, x % y, hy, by omega, rfl, by go_num, by show g = _; rw [hxy.out, Nat.gcd_comm x y, Nat.gcd_rec y x, Nat.gcd_comm]⟩
   case measure => simp [intOf]; omega
theorem R_gcd_abs (n d : Int) (w : World) (h1 : -4611686018427387904 ≤ n) (h2 : n ≤ 4611686018427387904) (h3 : 0 ≤ d) (h4 : d ≤ 4611686018427387904) :
  Calls Tryz.prog 106 #[.int .i64 (absI n), .int .i64 d] w fun e w' => e = .returned (.int .i64 (gI n d)) ∧ w = w' := by
 obtain ⟨y, rfl⟩ := Int.eq_ofNat_of_zero_le h3
 have e : gI n (y : Int) = (Nat.gcd n.natAbs y : Nat) := by simp [gI, Int.gcd]
 rw [e, absI_eq]
 exact R_gcd_nat n.natAbs y w (by omega) (by omega)
set_option maxHeartbeats 800000 in
theorem R_valid_in (n d : Int) (w : World) (h1 : 1 ≤ d) (h2 : d ≤ 1000000) (h3 : -1000000000 ≤ n) (h4 : n ≤ 1000000000) :
  Calls Tryz.prog 67 #[.agg #[.int .i64 n, .int .i64 d]] w fun e w' => e = .returned (.bool (gI n d == 1)) ∧ Below w.heap.size w w' := by
 go_enter Tryz.func67, Tryz.ntmps67
 go_wp2_with fail
 go_quiet ((first | (go_at_call 107; exact Calls.quiet_of_same ((R_abs_any _ _ (by omega) (by omega)).mono fun _ _ h => ⟨h.1, h.2.symm⟩)) | (go_at_call 106; exact Calls.quiet_of_same ((R_gcd_abs _ _ _ (by omega) (by omega) (by omega) (by omega)).mono fun _ _ h => ⟨h.1, h.2.symm⟩))))
 go_wp2_with fail
 go_ret
 refine ⟨rfl, ?_⟩
 (repeat' (first | (with_reducible first | exact Below.refl _ _ | assumption | exact Bw.out (by assumption) | refine bw_alloc ?_ _ | refine bw_step ?_ (by assumption) | refine Below.alloc ?_ ?_ _ | refine Below.drew ?_ | refine below_drewN ?_ _ | refine Below.setCell ?_ ?_ _ | refine below_step ?_ (by assumption) ?_ | exact Nat.le_refl _) | omega | (simp; omega) | (simp; done)))
set_option maxHeartbeats 800000 in
theorem R_valid_out (n d : Int) (w : World) (h : d < 1 ∨ (1 ≤ d ∧ 1000000 < d) ∨ (1 ≤ d ∧ d ≤ 1000000 ∧ n < -1000000000) ∨ (1 ≤ d ∧ d ≤ 1000000 ∧ -1000000000 ≤ n ∧ 1000000000 < n)) :
  Calls Tryz.prog 67 #[.agg #[.int .i64 n, .int .i64 d]] w fun e w' => e = .returned (.bool false) ∧ Below w.heap.size w w' := by
 rcases h with h | ⟨h1, h2⟩ | ⟨h1, h2, h3⟩ | ⟨h1, h2, h3, h4⟩
 all_goals
  go_enter Tryz.func67, Tryz.ntmps67
  go_wp2_with fail
  go_ret
  refine ⟨rfl, ?_⟩
  (repeat' (first | (with_reducible first | exact Below.refl _ _ | assumption | exact Bw.out (by assumption) | refine bw_alloc ?_ _ | refine bw_step ?_ (by assumption) | refine Below.alloc ?_ ?_ _ | refine Below.drew ?_ | refine below_drewN ?_ _ | refine Below.setCell ?_ ?_ _ | refine below_step ?_ (by assumption) ?_ | exact Nat.le_refl _) | omega | (simp; omega) | (simp; done)))
/-- The reference's Valid, for every pair of integers. -/
theorem R_valid_any (n d : Int) (w : World) :
  Calls Tryz.prog 67 #[.agg #[.int .i64 n, .int .i64 d]] w fun e w' => e = .returned (.bool (vld n d)) ∧ Below w.heap.size w w' := by
 by_cases h1 : 1 ≤ d
 ·
  by_cases h2 : d ≤ 1000000
  ·
   by_cases h3 : -1000000000 ≤ n
   ·
    by_cases h4 : n ≤ 1000000000
    ·
     have e : vld n d = (gI n d == 1) := by
      rw [Bool.eq_iff_iff]; simp [vld, vldP, h1, h2, h3, h4]
     rw [e]
     exact R_valid_in n d w h1 h2 h3 h4
    ·
     rw [vld_false (fun h => h4 h.2.2.2.1)]; exact R_valid_out n d w (by omega)
   ·
    rw [vld_false (fun h => h3 h.2.2.1)]; exact R_valid_out n d w (by omega)
  ·
   rw [vld_false (fun h => h2 h.2.1)]; exact R_valid_out n d w (by omega)
 ·
  rw [vld_false (fun h => h1 h.1)]; exact R_valid_out n d w (by omega)
end Go.Proofs.YtcmodmchnokmgaaGreat
