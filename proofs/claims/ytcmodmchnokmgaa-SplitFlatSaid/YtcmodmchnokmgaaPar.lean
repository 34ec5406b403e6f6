/-
 Well-formed expressions: parser.within, formed; the reference's in, node.
-/
import Derived.Test.YtcmodmchnokmgaaRows
import Derived.Test.YtcmodmchnokmgaaTyP
import Derived.Test.YtcmodmchnokmgaaSlice
namespace Go.Proofs.Ytcmodmchnokmgaa
set_option linter.unusedSimpArgs false
set_option linter.unusedVariables false
open Go.RowKit
set_option maxHeartbeats 800000 in
theorem p_within (n lo hi : Int) (w : World) :
  Calls Try.prog 108 #[.int .i64 n, .int .i64 lo, .int .i64 hi] w fun e w' => e = .returned (.bool (inE n lo hi)) ∧ w = w' := by
 unfold inE
 by_cases h1 : lo ≤ n
 ·
  by_cases h2 : n ≤ hi
  ·
   go_enter Try.func108, Try.ntmps108
   go_wp2_with fail
   go_ret
   exact ⟨ret_bool (by simp [h1, h2]), rfl⟩
  ·
   go_enter Try.func108, Try.ntmps108
   go_wp2_with fail
   go_ret
   exact ⟨ret_bool (by simp [h1, h2]), rfl⟩
 ·
  go_enter Try.func108, Try.ntmps108
  go_wp2_with fail
  go_ret
  exact ⟨ret_bool (by first | (simp; omega) | (simp [h1]; done)), rfl⟩
set_option maxHeartbeats 800000 in
theorem q_within (n lo hi : Int) (w : World) :
  Calls Try.prog 98 #[.int .i64 n, .int .i64 lo, .int .i64 hi] w fun e w' => e = .returned (.bool (inE n lo hi)) ∧ w = w' := by
 unfold inE
 by_cases h1 : lo ≤ n
 ·
  by_cases h2 : n ≤ hi
  ·
   go_enter Try.func98, Try.ntmps98
   go_wp2_with fail
   go_ret
   exact ⟨ret_bool (by simp [h1, h2]), rfl⟩
  ·
   go_enter Try.func98, Try.ntmps98
   go_wp2_with fail
   go_ret
   exact ⟨ret_bool (by simp [h1, h2]), rfl⟩
 ·
  go_enter Try.func98, Try.ntmps98
  go_wp2_with fail
  go_ret
  exact ⟨ret_bool (by first | (simp; omega) | (simp [h1]; done)), rfl⟩
set_option maxHeartbeats 800000 in
theorem t_within (n lo hi : Int) (w : World) :
  Calls Try.prog 76 #[.int .i64 n, .int .i64 lo, .int .i64 hi] w fun e w' => e = .returned (.bool (inE n lo hi)) ∧ w = w' := by
 unfold inE
 by_cases h1 : lo ≤ n
 ·
  by_cases h2 : n ≤ hi
  ·
   go_enter Try.func76, Try.ntmps76
   go_wp2_with fail
   go_ret
   exact ⟨ret_bool (by simp [h1, h2]), rfl⟩
  ·
   go_enter Try.func76, Try.ntmps76
   go_wp2_with fail
   go_ret
   exact ⟨ret_bool (by simp [h1, h2]), rfl⟩
 ·
  go_enter Try.func76, Try.ntmps76
  go_wp2_with fail
  go_ret
  exact ⟨ret_bool (by first | (simp; omega) | (simp [h1]; done)), rfl⟩
set_option maxHeartbeats 4000000 in
theorem p_node1 (n : Int) (ad : Option Addr) (k cap : Nat) (w : World) :
  Calls Try.prog 91 #[.agg #[.int .i64 1, .int .i64 n, .slice ad k cap]] w fun e w' => e = .returned (.bool (decide (k = 0) && inE n 0 999999999)) ∧ Below w.heap.size w w' := by
 by_cases hk : k = 0
 ·
  subst hk
  go_enter Try.func91, Try.ntmps91
  go_wp2_with (go_at_call 108; refine (p_within _ _ _ _).mono ?_; rintro e w' ⟨rfl, rfl⟩)
  go_ret
  exact ⟨ret_bool (by simp), by (repeat' (first | (with_reducible first | exact Below.refl _ _ | assumption | exact Bw.out (by assumption) | refine bw_alloc ?_ _ | refine bw_step ?_ (by assumption) | refine Below.alloc ?_ ?_ _ | refine Below.drew ?_ | refine below_drewN ?_ _ | refine Below.setCell ?_ ?_ _ | refine below_step ?_ (by assumption) ?_ | exact Nat.le_refl _) | omega | (simp; omega) | (simp; done)))⟩
 ·
  have hk' : ((k : Int) == 0) = false := by simp [hk]
  go_enter Try.func91, Try.ntmps91
  go_wp2_with (go_at_call 108; refine (p_within _ _ _ _).mono ?_; rintro e w' ⟨rfl, rfl⟩)
  go_ret
  exact ⟨ret_bool (by simp [hk]), by (repeat' (first | (with_reducible first | exact Below.refl _ _ | assumption | exact Bw.out (by assumption) | refine bw_alloc ?_ _ | refine bw_step ?_ (by assumption) | refine Below.alloc ?_ ?_ _ | refine Below.drew ?_ | refine below_drewN ?_ _ | refine Below.setCell ?_ ?_ _ | refine below_step ?_ (by assumption) ?_ | exact Nat.le_refl _) | omega | (simp; omega) | (simp; done)))⟩
set_option maxHeartbeats 4000000 in
theorem p_node2 (n : Int) (ad : Option Addr) (k cap : Nat) (w : World) :
  Calls Try.prog 91 #[.agg #[.int .i64 2, .int .i64 n, .slice ad k cap]] w fun e w' => e = .returned (.bool (decide (k = 0) && inE n 0 1000000000)) ∧ Below w.heap.size w w' := by
 by_cases hk : k = 0
 ·
  subst hk
  go_enter Try.func91, Try.ntmps91
  go_wp2_with (go_at_call 108; refine (p_within _ _ _ _).mono ?_; rintro e w' ⟨rfl, rfl⟩)
  go_ret
  exact ⟨ret_bool (by simp), by (repeat' (first | (with_reducible first | exact Below.refl _ _ | assumption | exact Bw.out (by assumption) | refine bw_alloc ?_ _ | refine bw_step ?_ (by assumption) | refine Below.alloc ?_ ?_ _ | refine Below.drew ?_ | refine below_drewN ?_ _ | refine Below.setCell ?_ ?_ _ | refine below_step ?_ (by assumption) ?_ | exact Nat.le_refl _) | omega | (simp; omega) | (simp; done)))⟩
 ·
  have hk' : ((k : Int) == 0) = false := by simp [hk]
  go_enter Try.func91, Try.ntmps91
  go_wp2_with (go_at_call 108; refine (p_within _ _ _ _).mono ?_; rintro e w' ⟨rfl, rfl⟩)
  go_ret
  exact ⟨ret_bool (by simp [hk]), by (repeat' (first | (with_reducible first | exact Below.refl _ _ | assumption | exact Bw.out (by assumption) | refine bw_alloc ?_ _ | refine bw_step ?_ (by assumption) | refine Below.alloc ?_ ?_ _ | refine Below.drew ?_ | refine below_drewN ?_ _ | refine Below.setCell ?_ ?_ _ | refine below_step ?_ (by assumption) ?_ | exact Nat.le_refl _) | omega | (simp; omega) | (simp; done)))⟩
set_option maxHeartbeats 4000000 in
theorem p_node3 (n : Int) (ad : Option Addr) (k cap : Nat) (w : World) :
  Calls Try.prog 91 #[.agg #[.int .i64 3, .int .i64 n, .slice ad k cap]] w fun e w' => e = .returned (.bool (decide (k = 0) && inE n 1 4)) ∧ Below w.heap.size w w' := by
 by_cases hk : k = 0
 ·
  subst hk
  go_enter Try.func91, Try.ntmps91
  go_wp2_with (go_at_call 108; refine (p_within _ _ _ _).mono ?_; rintro e w' ⟨rfl, rfl⟩)
  go_ret
  exact ⟨ret_bool (by simp), by (repeat' (first | (with_reducible first | exact Below.refl _ _ | assumption | exact Bw.out (by assumption) | refine bw_alloc ?_ _ | refine bw_step ?_ (by assumption) | refine Below.alloc ?_ ?_ _ | refine Below.drew ?_ | refine below_drewN ?_ _ | refine Below.setCell ?_ ?_ _ | refine below_step ?_ (by assumption) ?_ | exact Nat.le_refl _) | omega | (simp; omega) | (simp; done)))⟩
 ·
  have hk' : ((k : Int) == 0) = false := by simp [hk]
  go_enter Try.func91, Try.ntmps91
  go_wp2_with (go_at_call 108; refine (p_within _ _ _ _).mono ?_; rintro e w' ⟨rfl, rfl⟩)
  go_ret
  exact ⟨ret_bool (by simp [hk]), by (repeat' (first | (with_reducible first | exact Below.refl _ _ | assumption | exact Bw.out (by assumption) | refine bw_alloc ?_ _ | refine bw_step ?_ (by assumption) | refine Below.alloc ?_ ?_ _ | refine Below.drew ?_ | refine below_drewN ?_ _ | refine Below.setCell ?_ ?_ _ | refine below_step ?_ (by assumption) ?_ | exact Nat.le_refl _) | omega | (simp; omega) | (simp; done)))⟩
set_option maxHeartbeats 4000000 in
theorem p_node15 (n : Int) (ad : Option Addr) (k cap : Nat) (w : World) :
  Calls Try.prog 91 #[.agg #[.int .i64 15, .int .i64 n, .slice ad k cap]] w fun e w' => e = .returned (.bool (decide (k = 1) && decide (n = 0))) ∧ Below w.heap.size w w' := by
 by_cases hk : k = 1
 ·
  subst hk
  by_cases hn : n = 0
  ·
   subst hn
   go_enter Try.func91, Try.ntmps91
   go_wp2_with (go_at_call 108; refine (p_within _ _ _ _).mono ?_; rintro e w' ⟨rfl, rfl⟩)
   go_ret
   exact ⟨ret_bool (by simp), by (repeat' (first | (with_reducible first | exact Below.refl _ _ | assumption | exact Bw.out (by assumption) | refine bw_alloc ?_ _ | refine bw_step ?_ (by assumption) | refine Below.alloc ?_ ?_ _ | refine Below.drew ?_ | refine below_drewN ?_ _ | refine Below.setCell ?_ ?_ _ | refine below_step ?_ (by assumption) ?_ | exact Nat.le_refl _) | omega | (simp; omega) | (simp; done)))⟩
  ·
   have hn' : (n == 0) = false := by simp [hn]
   go_enter Try.func91, Try.ntmps91
   go_wp2_with (go_at_call 108; refine (p_within _ _ _ _).mono ?_; rintro e w' ⟨rfl, rfl⟩)
   go_ret
   exact ⟨ret_bool (by simp [hn]), by (repeat' (first | (with_reducible first | exact Below.refl _ _ | assumption | exact Bw.out (by assumption) | refine bw_alloc ?_ _ | refine bw_step ?_ (by assumption) | refine Below.alloc ?_ ?_ _ | refine Below.drew ?_ | refine below_drewN ?_ _ | refine Below.setCell ?_ ?_ _ | refine below_step ?_ (by assumption) ?_ | exact Nat.le_refl _) | omega | (simp; omega) | (simp; done)))⟩
 ·
  have hk' : ((k : Int) == 1) = false := by simp; omega
  go_enter Try.func91, Try.ntmps91
  go_wp2_with (go_at_call 108; refine (p_within _ _ _ _).mono ?_; rintro e w' ⟨rfl, rfl⟩)
  go_ret
  exact ⟨ret_bool (by simp [hk]), by (repeat' (first | (with_reducible first | exact Below.refl _ _ | assumption | exact Bw.out (by assumption) | refine bw_alloc ?_ _ | refine bw_step ?_ (by assumption) | refine Below.alloc ?_ ?_ _ | refine Below.drew ?_ | refine below_drewN ?_ _ | refine Below.setCell ?_ ?_ _ | refine below_step ?_ (by assumption) ?_ | exact Nat.le_refl _) | omega | (simp; omega) | (simp; done)))⟩
set_option maxHeartbeats 4000000 in
theorem p_node10 (n : Int) (ad : Option Addr) (k cap : Nat) (w : World) :
  Calls Try.prog 91 #[.agg #[.int .i64 10, .int .i64 n, .slice ad k cap]] w fun e w' => e = .returned (.bool (decide (k = 3) && decide (n = 0))) ∧ Below w.heap.size w w' := by
 by_cases hk : k = 3
 ·
  subst hk
  by_cases hn : n = 0
  ·
   subst hn
   go_enter Try.func91, Try.ntmps91
   go_wp2_with (go_at_call 108; refine (p_within _ _ _ _).mono ?_; rintro e w' ⟨rfl, rfl⟩)
   go_ret
   exact ⟨ret_bool (by simp), by (repeat' (first | (with_reducible first | exact Below.refl _ _ | assumption | exact Bw.out (by assumption) | refine bw_alloc ?_ _ | refine bw_step ?_ (by assumption) | refine Below.alloc ?_ ?_ _ | refine Below.drew ?_ | refine below_drewN ?_ _ | refine Below.setCell ?_ ?_ _ | refine below_step ?_ (by assumption) ?_ | exact Nat.le_refl _) | omega | (simp; omega) | (simp; done)))⟩
  ·
   have hn' : (n == 0) = false := by simp [hn]
   go_enter Try.func91, Try.ntmps91
   go_wp2_with (go_at_call 108; refine (p_within _ _ _ _).mono ?_; rintro e w' ⟨rfl, rfl⟩)
   go_ret
   exact ⟨ret_bool (by simp [hn]), by (repeat' (first | (with_reducible first | exact Below.refl _ _ | assumption | exact Bw.out (by assumption) | refine bw_alloc ?_ _ | refine bw_step ?_ (by assumption) | refine Below.alloc ?_ ?_ _ | refine Below.drew ?_ | refine below_drewN ?_ _ | refine Below.setCell ?_ ?_ _ | refine below_step ?_ (by assumption) ?_ | exact Nat.le_refl _) | omega | (simp; omega) | (simp; done)))⟩
 ·
  have hk' : ((k : Int) == 3) = false := by simp; omega
  go_enter Try.func91, Try.ntmps91
  go_wp2_with (go_at_call 108; refine (p_within _ _ _ _).mono ?_; rintro e w' ⟨rfl, rfl⟩)
  go_ret
  exact ⟨ret_bool (by simp [hk]), by (repeat' (first | (with_reducible first | exact Below.refl _ _ | assumption | exact Bw.out (by assumption) | refine bw_alloc ?_ _ | refine bw_step ?_ (by assumption) | refine Below.alloc ?_ ?_ _ | refine Below.drew ?_ | refine below_drewN ?_ _ | refine Below.setCell ?_ ?_ _ | refine below_step ?_ (by assumption) ?_ | exact Nat.le_refl _) | omega | (simp; omega) | (simp; done)))⟩
set_option maxHeartbeats 4000000 in
theorem p_nodeX (op n : Int) (ad : Option Addr) (k cap : Nat) (w : World) (h1 : (op == 1) = false) (h2 : (op == 2) = false) (h3 : (op == 3) = false) (h4 : (op == 15) = false) (h5 : (op == 10) = false) :
  Calls Try.prog 91 #[.agg #[.int .i64 op, .int .i64 n, .slice ad k cap]] w fun e w' => e = .returned (.bool (inE op 4 14 && (decide (k = 2) && decide (n = 0)))) ∧ Below w.heap.size w w' := by
 by_cases ho : inE op 4 14 = true
 ·
  by_cases hk : k = 2
  ·
   subst hk
   by_cases hn : n = 0
   ·
    subst hn
    go_enter Try.func91, Try.ntmps91
    go_wp2_with (go_at_call 108; refine (p_within _ _ _ _).mono ?_; rintro e w' ⟨rfl, rfl⟩)
    go_ret
    exact ⟨ret_bool (by simp [ho]), by (repeat' (first | (with_reducible first | exact Below.refl _ _ | assumption | exact Bw.out (by assumption) | refine bw_alloc ?_ _ | refine bw_step ?_ (by assumption) | refine Below.alloc ?_ ?_ _ | refine Below.drew ?_ | refine below_drewN ?_ _ | refine Below.setCell ?_ ?_ _ | refine below_step ?_ (by assumption) ?_ | exact Nat.le_refl _) | omega | (simp; omega) | (simp; done)))⟩
   ·
    have hn' : (n == 0) = false := by simp [hn]
    go_enter Try.func91, Try.ntmps91
    go_wp2_with (go_at_call 108; refine (p_within _ _ _ _).mono ?_; rintro e w' ⟨rfl, rfl⟩)
    go_ret
    exact ⟨ret_bool (by simp [hn]), by (repeat' (first | (with_reducible first | exact Below.refl _ _ | assumption | exact Bw.out (by assumption) | refine bw_alloc ?_ _ | refine bw_step ?_ (by assumption) | refine Below.alloc ?_ ?_ _ | refine Below.drew ?_ | refine below_drewN ?_ _ | refine Below.setCell ?_ ?_ _ | refine below_step ?_ (by assumption) ?_ | exact Nat.le_refl _) | omega | (simp; omega) | (simp; done)))⟩
  ·
   have hk' : ((k : Int) == 2) = false := by simp; omega
   go_enter Try.func91, Try.ntmps91
   go_wp2_with (go_at_call 108; refine (p_within _ _ _ _).mono ?_; rintro e w' ⟨rfl, rfl⟩)
   go_ret
   exact ⟨ret_bool (by simp [hk]), by (repeat' (first | (with_reducible first | exact Below.refl _ _ | assumption | exact Bw.out (by assumption) | refine bw_alloc ?_ _ | refine bw_step ?_ (by assumption) | refine Below.alloc ?_ ?_ _ | refine Below.drew ?_ | refine below_drewN ?_ _ | refine Below.setCell ?_ ?_ _ | refine below_step ?_ (by assumption) ?_ | exact Nat.le_refl _) | omega | (simp; omega) | (simp; done)))⟩
 ·
  rw [Bool.not_eq_true] at ho
  go_enter Try.func91, Try.ntmps91
  go_wp2_with (go_at_call 108; refine (p_within _ _ _ _).mono ?_; rintro e w' ⟨rfl, rfl⟩)
  go_ret
  exact ⟨ret_bool (by simp [ho]), by (repeat' (first | (with_reducible first | exact Below.refl _ _ | assumption | exact Bw.out (by assumption) | refine bw_alloc ?_ _ | refine bw_step ?_ (by assumption) | refine Below.alloc ?_ ?_ _ | refine Below.drew ?_ | refine below_drewN ?_ _ | refine Below.setCell ?_ ?_ _ | refine below_step ?_ (by assumption) ?_ | exact Nat.le_refl _) | omega | (simp; omega) | (simp; done)))⟩
theorem p_node (op n : Int) (ad : Option Addr) (k cap : Nat) (w : World) :
  Calls Try.prog 91 #[.agg #[.int .i64 op, .int .i64 n, .slice ad k cap]] w fun e w' => e = .returned (.bool (nodeB op n k)) ∧ Below w.heap.size w w' := by
 unfold nodeB
 by_cases h1 : op = 1
 ·
  subst h1; simpa using p_node1 n ad k cap w
 by_cases h2 : op = 2
 ·
  subst h2; simpa using p_node2 n ad k cap w
 by_cases h3 : op = 3
 ·
  subst h3; simpa using p_node3 n ad k cap w
 by_cases h4 : op = 15
 ·
  subst h4; simpa using p_node15 n ad k cap w
 by_cases h5 : op = 10
 ·
  subst h5; simpa using p_node10 n ad k cap w
 simpa [h1, h2, h3, h4, h5] using p_nodeX op n ad k cap w (by simp [h1]) (by simp [h2]) (by simp [h3]) (by simp [h4]) (by simp [h5])
set_option maxHeartbeats 4000000 in
theorem q_node1 (n : Int) (ad : Option Addr) (k cap : Nat) (w : World) :
  Calls Try.prog 78 #[.agg #[.int .i64 1, .int .i64 n, .slice ad k cap]] w fun e w' => e = .returned (.bool (decide (k = 0) && inE n 0 999999999)) ∧ Below w.heap.size w w' := by
 by_cases hk : k = 0
 ·
  subst hk
  go_enter Try.func78, Try.ntmps78
  go_wp2_with (go_at_call 98; refine (q_within _ _ _ _).mono ?_; rintro e w' ⟨rfl, rfl⟩)
  go_ret
  exact ⟨ret_bool (by simp), by (repeat' (first | (with_reducible first | exact Below.refl _ _ | assumption | exact Bw.out (by assumption) | refine bw_alloc ?_ _ | refine bw_step ?_ (by assumption) | refine Below.alloc ?_ ?_ _ | refine Below.drew ?_ | refine below_drewN ?_ _ | refine Below.setCell ?_ ?_ _ | refine below_step ?_ (by assumption) ?_ | exact Nat.le_refl _) | omega | (simp; omega) | (simp; done)))⟩
 ·
  have hk' : ((k : Int) == 0) = false := by simp [hk]
  go_enter Try.func78, Try.ntmps78
  go_wp2_with (go_at_call 98; refine (q_within _ _ _ _).mono ?_; rintro e w' ⟨rfl, rfl⟩)
  go_ret
  exact ⟨ret_bool (by simp [hk]), by (repeat' (first | (with_reducible first | exact Below.refl _ _ | assumption | exact Bw.out (by assumption) | refine bw_alloc ?_ _ | refine bw_step ?_ (by assumption) | refine Below.alloc ?_ ?_ _ | refine Below.drew ?_ | refine below_drewN ?_ _ | refine Below.setCell ?_ ?_ _ | refine below_step ?_ (by assumption) ?_ | exact Nat.le_refl _) | omega | (simp; omega) | (simp; done)))⟩
set_option maxHeartbeats 4000000 in
theorem q_node2 (n : Int) (ad : Option Addr) (k cap : Nat) (w : World) :
  Calls Try.prog 78 #[.agg #[.int .i64 2, .int .i64 n, .slice ad k cap]] w fun e w' => e = .returned (.bool (decide (k = 0) && inE n 0 1000000000)) ∧ Below w.heap.size w w' := by
 by_cases hk : k = 0
 ·
  subst hk
  go_enter Try.func78, Try.ntmps78
  go_wp2_with (go_at_call 98; refine (q_within _ _ _ _).mono ?_; rintro e w' ⟨rfl, rfl⟩)
  go_ret
  exact ⟨ret_bool (by simp), by (repeat' (first | (with_reducible first | exact Below.refl _ _ | assumption | exact Bw.out (by assumption) | refine bw_alloc ?_ _ | refine bw_step ?_ (by assumption) | refine Below.alloc ?_ ?_ _ | refine Below.drew ?_ | refine below_drewN ?_ _ | refine Below.setCell ?_ ?_ _ | refine below_step ?_ (by assumption) ?_ | exact Nat.le_refl _) | omega | (simp; omega) | (simp; done)))⟩
 ·
  have hk' : ((k : Int) == 0) = false := by simp [hk]
  go_enter Try.func78, Try.ntmps78
  go_wp2_with (go_at_call 98; refine (q_within _ _ _ _).mono ?_; rintro e w' ⟨rfl, rfl⟩)
  go_ret
  exact ⟨ret_bool (by simp [hk]), by (repeat' (first | (with_reducible first | exact Below.refl _ _ | assumption | exact Bw.out (by assumption) | refine bw_alloc ?_ _ | refine bw_step ?_ (by assumption) | refine Below.alloc ?_ ?_ _ | refine Below.drew ?_ | refine below_drewN ?_ _ | refine Below.setCell ?_ ?_ _ | refine below_step ?_ (by assumption) ?_ | exact Nat.le_refl _) | omega | (simp; omega) | (simp; done)))⟩
set_option maxHeartbeats 4000000 in
theorem q_node3 (n : Int) (ad : Option Addr) (k cap : Nat) (w : World) :
  Calls Try.prog 78 #[.agg #[.int .i64 3, .int .i64 n, .slice ad k cap]] w fun e w' => e = .returned (.bool (decide (k = 0) && inE n 1 4)) ∧ Below w.heap.size w w' := by
 by_cases hk : k = 0
 ·
  subst hk
  go_enter Try.func78, Try.ntmps78
  go_wp2_with (go_at_call 98; refine (q_within _ _ _ _).mono ?_; rintro e w' ⟨rfl, rfl⟩)
  go_ret
  exact ⟨ret_bool (by simp), by (repeat' (first | (with_reducible first | exact Below.refl _ _ | assumption | exact Bw.out (by assumption) | refine bw_alloc ?_ _ | refine bw_step ?_ (by assumption) | refine Below.alloc ?_ ?_ _ | refine Below.drew ?_ | refine below_drewN ?_ _ | refine Below.setCell ?_ ?_ _ | refine below_step ?_ (by assumption) ?_ | exact Nat.le_refl _) | omega | (simp; omega) | (simp; done)))⟩
 ·
  have hk' : ((k : Int) == 0) = false := by simp [hk]
  go_enter Try.func78, Try.ntmps78
  go_wp2_with (go_at_call 98; refine (q_within _ _ _ _).mono ?_; rintro e w' ⟨rfl, rfl⟩)
  go_ret
  exact ⟨ret_bool (by simp [hk]), by (repeat' (first | (with_reducible first | exact Below.refl _ _ | assumption | exact Bw.out (by assumption) | refine bw_alloc ?_ _ | refine bw_step ?_ (by assumption) | refine Below.alloc ?_ ?_ _ | refine Below.drew ?_ | refine below_drewN ?_ _ | refine Below.setCell ?_ ?_ _ | refine below_step ?_ (by assumption) ?_ | exact Nat.le_refl _) | omega | (simp; omega) | (simp; done)))⟩
set_option maxHeartbeats 4000000 in
theorem q_node15 (n : Int) (ad : Option Addr) (k cap : Nat) (w : World) :
  Calls Try.prog 78 #[.agg #[.int .i64 15, .int .i64 n, .slice ad k cap]] w fun e w' => e = .returned (.bool (decide (k = 1) && decide (n = 0))) ∧ Below w.heap.size w w' := by
 by_cases hk : k = 1
 ·
  subst hk
  by_cases hn : n = 0
  ·
   subst hn
   go_enter Try.func78, Try.ntmps78
   go_wp2_with (go_at_call 98; refine (q_within _ _ _ _).mono ?_; rintro e w' ⟨rfl, rfl⟩)
   go_ret
   exact ⟨ret_bool (by simp), by (repeat' (first | (with_reducible first | exact Below.refl _ _ | assumption | exact Bw.out (by assumption) | refine bw_alloc ?_ _ | refine bw_step ?_ (by assumption) | refine Below.alloc ?_ ?_ _ | refine Below.drew ?_ | refine below_drewN ?_ _ | refine Below.setCell ?_ ?_ _ | refine below_step ?_ (by assumption) ?_ | exact Nat.le_refl _) | omega | (simp; omega) | (simp; done)))⟩
  ·
   have hn' : (n == 0) = false := by simp [hn]
   go_enter Try.func78, Try.ntmps78
   go_wp2_with (go_at_call 98; refine (q_within _ _ _ _).mono ?_; rintro e w' ⟨rfl, rfl⟩)
   go_ret
   exact ⟨ret_bool (by simp [hn]), by (repeat' (first | (with_reducible first | exact Below.refl _ _ | assumption | exact Bw.out (by assumption) | refine bw_alloc ?_ _ | refine bw_step ?_ (by assumption) | refine Below.alloc ?_ ?_ _ | refine Below.drew ?_ | refine below_drewN ?_ _ | refine Below.setCell ?_ ?_ _ | refine below_step ?_ (by assumption) ?_ | exact Nat.le_refl _) | omega | (simp; omega) | (simp; done)))⟩
 ·
  have hk' : ((k : Int) == 1) = false := by simp; omega
  go_enter Try.func78, Try.ntmps78
  go_wp2_with (go_at_call 98; refine (q_within _ _ _ _).mono ?_; rintro e w' ⟨rfl, rfl⟩)
  go_ret
  exact ⟨ret_bool (by simp [hk]), by (repeat' (first | (with_reducible first | exact Below.refl _ _ | assumption | exact Bw.out (by assumption) | refine bw_alloc ?_ _ | refine bw_step ?_ (by assumption) | refine Below.alloc ?_ ?_ _ | refine Below.drew ?_ | refine below_drewN ?_ _ | refine Below.setCell ?_ ?_ _ | refine below_step ?_ (by assumption) ?_ | exact Nat.le_refl _) | omega | (simp; omega) | (simp; done)))⟩
set_option maxHeartbeats 4000000 in
theorem q_node10 (n : Int) (ad : Option Addr) (k cap : Nat) (w : World) :
  Calls Try.prog 78 #[.agg #[.int .i64 10, .int .i64 n, .slice ad k cap]] w fun e w' => e = .returned (.bool (decide (k = 3) && decide (n = 0))) ∧ Below w.heap.size w w' := by
 by_cases hk : k = 3
 ·
  subst hk
  by_cases hn : n = 0
  ·
   subst hn
   go_enter Try.func78, Try.ntmps78
   go_wp2_with (go_at_call 98; refine (q_within _ _ _ _).mono ?_; rintro e w' ⟨rfl, rfl⟩)
   go_ret
   exact ⟨ret_bool (by simp), by (repeat' (first | (with_reducible first | exact Below.refl _ _ | assumption | exact Bw.out (by assumption) | refine bw_alloc ?_ _ | refine bw_step ?_ (by assumption) | refine Below.alloc ?_ ?_ _ | refine Below.drew ?_ | refine below_drewN ?_ _ | refine Below.setCell ?_ ?_ _ | refine below_step ?_ (by assumption) ?_ | exact Nat.le_refl _) | omega | (simp; omega) | (simp; done)))⟩
  ·
   have hn' : (n == 0) = false := by simp [hn]
   go_enter Try.func78, Try.ntmps78
   go_wp2_with (go_at_call 98; refine (q_within _ _ _ _).mono ?_; rintro e w' ⟨rfl, rfl⟩)
   go_ret
   exact ⟨ret_bool (by simp [hn]), by (repeat' (first | (with_reducible first | exact Below.refl _ _ | assumption | exact Bw.out (by assumption) | refine bw_alloc ?_ _ | refine bw_step ?_ (by assumption) | refine Below.alloc ?_ ?_ _ | refine Below.drew ?_ | refine below_drewN ?_ _ | refine Below.setCell ?_ ?_ _ | refine below_step ?_ (by assumption) ?_ | exact Nat.le_refl _) | omega | (simp; omega) | (simp; done)))⟩
 ·
  have hk' : ((k : Int) == 3) = false := by simp; omega
  go_enter Try.func78, Try.ntmps78
  go_wp2_with (go_at_call 98; refine (q_within _ _ _ _).mono ?_; rintro e w' ⟨rfl, rfl⟩)
  go_ret
  exact ⟨ret_bool (by simp [hk]), by (repeat' (first | (with_reducible first | exact Below.refl _ _ | assumption | exact Bw.out (by assumption) | refine bw_alloc ?_ _ | refine bw_step ?_ (by assumption) | refine Below.alloc ?_ ?_ _ | refine Below.drew ?_ | refine below_drewN ?_ _ | refine Below.setCell ?_ ?_ _ | refine below_step ?_ (by assumption) ?_ | exact Nat.le_refl _) | omega | (simp; omega) | (simp; done)))⟩
set_option maxHeartbeats 4000000 in
theorem q_nodeX (op n : Int) (ad : Option Addr) (k cap : Nat) (w : World) (h1 : (op == 1) = false) (h2 : (op == 2) = false) (h3 : (op == 3) = false) (h4 : (op == 15) = false) (h5 : (op == 10) = false) :
  Calls Try.prog 78 #[.agg #[.int .i64 op, .int .i64 n, .slice ad k cap]] w fun e w' => e = .returned (.bool (inE op 4 14 && (decide (k = 2) && decide (n = 0)))) ∧ Below w.heap.size w w' := by
 by_cases ho : inE op 4 14 = true
 ·
  by_cases hk : k = 2
  ·
   subst hk
   by_cases hn : n = 0
   ·
    subst hn
    go_enter Try.func78, Try.ntmps78
    go_wp2_with (go_at_call 98; refine (q_within _ _ _ _).mono ?_; rintro e w' ⟨rfl, rfl⟩)
    go_ret
    exact ⟨ret_bool (by simp [ho]), by (repeat' (first | (with_reducible first | exact Below.refl _ _ | assumption | exact Bw.out (by assumption) | refine bw_alloc ?_ _ | refine bw_step ?_ (by assumption) | refine Below.alloc ?_ ?_ _ | refine Below.drew ?_ | refine below_drewN ?_ _ | refine Below.setCell ?_ ?_ _ | refine below_step ?_ (by assumption) ?_ | exact Nat.le_refl _) | omega | (simp; omega) | (simp; done)))⟩
   ·
    have hn' : (n == 0) = false := by simp [hn]
    go_enter Try.func78, Try.ntmps78
    go_wp2_with (go_at_call 98; refine (q_within _ _ _ _).mono ?_; rintro e w' ⟨rfl, rfl⟩)
    go_ret
    exact ⟨ret_bool (by simp [hn]), by (repeat' (first | (with_reducible first | exact Below.refl _ _ | assumption | exact Bw.out (by assumption) | refine bw_alloc ?_ _ | refine bw_step ?_ (by assumption) | refine Below.alloc ?_ ?_ _ | refine Below.drew ?_ | refine below_drewN ?_ _ | refine Below.setCell ?_ ?_ _ | refine below_step ?_ (by assumption) ?_ | exact Nat.le_refl _) | omega | (simp; omega) | (simp; done)))⟩
  ·
   have hk' : ((k : Int) == 2) = false := by simp; omega
   go_enter Try.func78, Try.ntmps78
   go_wp2_with (go_at_call 98; refine (q_within _ _ _ _).mono ?_; rintro e w' ⟨rfl, rfl⟩)
   go_ret
   exact ⟨ret_bool (by simp [hk]), by (repeat' (first | (with_reducible first | exact Below.refl _ _ | assumption | exact Bw.out (by assumption) | refine bw_alloc ?_ _ | refine bw_step ?_ (by assumption) | refine Below.alloc ?_ ?_ _ | refine Below.drew ?_ | refine below_drewN ?_ _ | refine Below.setCell ?_ ?_ _ | refine below_step ?_ (by assumption) ?_ | exact Nat.le_refl _) | omega | (simp; omega) | (simp; done)))⟩
 ·
  rw [Bool.not_eq_true] at ho
  go_enter Try.func78, Try.ntmps78
  go_wp2_with (go_at_call 98; refine (q_within _ _ _ _).mono ?_; rintro e w' ⟨rfl, rfl⟩)
  go_ret
  exact ⟨ret_bool (by simp [ho]), by (repeat' (first | (with_reducible first | exact Below.refl _ _ | assumption | exact Bw.out (by assumption) | refine bw_alloc ?_ _ | refine bw_step ?_ (by assumption) | refine Below.alloc ?_ ?_ _ | refine Below.drew ?_ | refine below_drewN ?_ _ | refine Below.setCell ?_ ?_ _ | refine below_step ?_ (by assumption) ?_ | exact Nat.le_refl _) | omega | (simp; omega) | (simp; done)))⟩
theorem q_node (op n : Int) (ad : Option Addr) (k cap : Nat) (w : World) :
  Calls Try.prog 78 #[.agg #[.int .i64 op, .int .i64 n, .slice ad k cap]] w fun e w' => e = .returned (.bool (nodeB op n k)) ∧ Below w.heap.size w w' := by
 unfold nodeB
 by_cases h1 : op = 1
 ·
  subst h1; simpa using q_node1 n ad k cap w
 by_cases h2 : op = 2
 ·
  subst h2; simpa using q_node2 n ad k cap w
 by_cases h3 : op = 3
 ·
  subst h3; simpa using q_node3 n ad k cap w
 by_cases h4 : op = 15
 ·
  subst h4; simpa using q_node15 n ad k cap w
 by_cases h5 : op = 10
 ·
  subst h5; simpa using q_node10 n ad k cap w
 simpa [h1, h2, h3, h4, h5] using q_nodeX op n ad k cap w (by simp [h1]) (by simp [h2]) (by simp [h3]) (by simp [h4]) (by simp [h5])
end Go.Proofs.Ytcmodmchnokmgaa
