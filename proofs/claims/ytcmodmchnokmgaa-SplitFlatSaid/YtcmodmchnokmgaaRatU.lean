/-
 The walks of package ratio, sixth part: rounding.
-/
import Derived.Test.YtcmodmchnokmgaaRatY
import Derived.Test.YtcmodmchnokmgaaRatB
import Derived.Test.YtcmodmchnokmgaaMapI
namespace Go.Proofs.Ytcmodmchnokmgaa
set_option linter.unusedSimpArgs false
set_option linter.unusedVariables false
open Go.RowKit
theorem and_one_i64 (q : Int) : bits BinOp.and IntKind.i64 q 1 = q % 2 := by
 simp only [bits, IntKind.wrap_i64]
 have h : (BitVec.ofInt IntKind.i64.bits q &&& BitVec.ofInt IntKind.i64.bits 1).toNat = (q % 2).toNat := by
  rw [BitVec.toNat_and]
  have e1 : (BitVec.ofInt IntKind.i64.bits 1).toNat = 1 := by decide
  rw [e1, Nat.and_one_is_mod, BitVec.toNat_ofInt]
  have : IntKind.i64.bits = 64 := rfl
  rw [this]
  omega
 rw [h]
 omega
set_option maxHeartbeats 400000 in
theorem next1_any (q r d : Int) (w : World) : Calls Try.prog 103 #[.int .i64 q, .int .i64 r, .int .i64 d] w fun e w' => e = .returned (.bool (nxB 1 q r d)) ∧ w = w' := by
 rw [nxB_1]
 go_enter Try.func103, Try.ntmps103
 go_wp2
 go_ret
 exact ⟨rfl, rfl⟩
set_option maxHeartbeats 400000 in
theorem next2_any (q r d : Int) (w : World) : Calls Try.prog 104 #[.int .i64 q, .int .i64 r, .int .i64 d] w fun e w' => e = .returned (.bool (nxB 2 q r d)) ∧ w = w' := by
 rw [nxB_2]
 go_enter Try.func104, Try.ntmps104
 go_wp2
 go_ret
 exact ⟨rfl, rfl⟩
set_option maxHeartbeats 400000 in
theorem next3_any (q r d : Int) (w : World) (h1 : -4000000000000000000 ≤ r) (h2 : r ≤ 4000000000000000000) : Calls Try.prog 105 #[.int .i64 q, .int .i64 r, .int .i64 d] w fun e w' => e = .returned (.bool (nxB 3 q r d)) ∧ w = w' := by
 rw [nxB_3]
 have hb := and_one_i64 q
 have k1 : IntKind.i64.wrap (2 * r) = 2 * r := IntWalk.i64_in _ (by omega)
 by_cases a1 : d < 2 * r
 ·
  go_enter Try.func105, Try.ntmps105
  go_wp2
  go_ret
  exact ⟨by simp [a1], rfl⟩
 ·
  have a1' : 2 * r ≤ d := by omega
  by_cases a2 : 2 * r = d
  ·
   have a2' : (2 * r == d) = true := by simpa using a2
   go_enter Try.func105, Try.ntmps105
   go_wp2
   go_ret
   exact ⟨ret_bool (by rw [Bool.eq_iff_iff]; simp [a2]), rfl⟩
  ·
   have a2' : (2 * r == d) = false := by simpa using a2
   go_enter Try.func105, Try.ntmps105
   go_wp2
   go_ret
   exact ⟨by simp [a2, a1], rfl⟩
/-- A rounder's value: a struct that holds one function. -/
def rdV (f : FuncId) : Value := .agg #[.func (.func f) #[] #[]]
def rmap : List (Int × Value) := [(1, .agg #[.func (.func 103) #[] #[]]), (2, .agg #[.func (.func 104) #[] #[]]), (3, .agg #[.func (.func 105) #[] #[]])]
theorem rmap_eq : upd (upd (upd [] 1 (.agg #[.func (.func 103) #[] #[]])) 2 (.agg #[.func (.func 104) #[] #[]])) 3 (.agg #[.func (.func 105) #[] #[]]) = rmap := by simp [upd, rmap]
def RoundersPost (w : World) (e : Ending) (w' : World) : Prop := ∃ r, e = .returned (.map (some r)) ∧ IMap w' r rmap ∧ Below w.heap.size w w' ∧ w.heap.size ≤ r
set_option maxHeartbeats 800000 in
theorem rounders_any (w : World) : Calls Try.prog 84 #[] w (RoundersPost w) := by
 have hmm := @run_makeMap Try.prog
 have hi0 := imap_made w
 go_enter Try.func84, Try.ntmps84
 go_wp2_with (first | (refine wpList_update_imap _ rfl _ _ _ 121 (.inr rfl) 3 119 Try.underlying121 Try.underlying3 _ _ rfl (by assumption) _ _ rfl rfl ?_; intro w1 hm1 hg1))
 rename_i wa _ ga wb _ gb
 have b1 := (Below.refl w.heap.size w).alloc (Nat.le_refl _) (.map #[] 0)
 have b2 := b1.grown ga b1.size (fun k e => by cases e; exact Nat.le_refl _)
 have b3 := b2.grown gb b2.size (fun k e => by cases e; exact Nat.le_refl _)
 have b4 := b3.grown hg1 b3.size (fun k e => by cases e; exact Nat.le_refl _)
 go_ret
 exact ⟨w.heap.size, rfl, by rw [← rmap_eq]; exact hm1, b4, Nat.le_refl _⟩
set_option maxHeartbeats 1600000 in
theorem round1_any (n d : Int) (w : World) (h1 : -1000000000000000000 ≤ n) (h2 : n ≤ 1000000000000000000) (h3 : 1 ≤ d) (h4 : d ≤ 1000000) :
  Calls Try.prog 85 #[.agg #[.int .i64 n, .int .i64 d], .agg #[.func (.func 103) #[] #[]]] w fun e w' => e = .returned (.int .i64 (rnd 1 n d)) ∧ Below w.heap.size w w' := by
 by_cases hn : 0 ≤ n
 ·
  obtain ⟨k1, k2, k3, k4⟩ := floor_nonneg hn h3
  have k5 : 0 ≤ n / d * d := Int.mul_nonneg k3 (by omega)
  have k6 : decide (n < n / d * d) = false := by simp; omega
  have HK := Lib.hid k2
  have hr1 := Int.emod_nonneg n (show d ≠ 0 by omega)
  have hr2 := Int.emod_lt_of_pos n (show 0 < d by omega)
  clear k2
  by_cases hx : nxB 1 (n / d) (n - n / d * d) d = true
  ·
   rw [rnd_up rfl HK.out hx]
   go_enter Try.func85, Try.ntmps85
   go_wp2_with fail
   refine (next1_any _ _ _ _).mono ?_
   rintro e w' ⟨rfl, rfl⟩
   go_wp2_with fail
   go_ret
   refine ⟨rfl, ?_⟩
   (repeat' (first | (with_reducible first | exact Below.refl _ _ | assumption | exact Bw.out (by assumption) | refine bw_alloc ?_ _ | refine bw_step ?_ (by assumption) | refine Below.alloc ?_ ?_ _ | refine Below.drew ?_ | refine below_drewN ?_ _ | refine Below.setCell ?_ ?_ _ | refine below_step ?_ (by assumption) ?_ | exact Nat.le_refl _) | omega | (simp; omega) | (simp; done)))
  by_cases hx : nxB 1 (n / d) (n - n / d * d) d = false
  ·
   rw [rnd_dn rfl HK.out hx]
   go_enter Try.func85, Try.ntmps85
   go_wp2_with fail
   refine (next1_any _ _ _ _).mono ?_
   rintro e w' ⟨rfl, rfl⟩
   go_wp2_with fail
   go_ret
   refine ⟨rfl, ?_⟩
   (repeat' (first | (with_reducible first | exact Below.refl _ _ | assumption | exact Bw.out (by assumption) | refine bw_alloc ?_ _ | refine bw_step ?_ (by assumption) | refine Below.alloc ?_ ?_ _ | refine Below.drew ?_ | refine below_drewN ?_ _ | refine Below.setCell ?_ ?_ _ | refine below_step ?_ (by assumption) ?_ | exact Nat.le_refl _) | omega | (simp; omega) | (simp; done)))
  exfalso; cases hz : nxB 1 (n / d) (n - n / d * d) d <;> simp_all
 ·
  obtain ⟨k1, k2, k3, k4, k5, k6⟩ := floor_neg (n := n) (d := d) (by omega) h3
  have hr1 := Int.emod_nonneg n (show d ≠ 0 by omega)
  have hr2 := Int.emod_lt_of_pos n (show 0 < d by omega)
  by_cases hlt : n < n.tdiv d * d
  ·
   obtain ⟨m1, m2, m3⟩ := k5 hlt
   clear k5 k6
   have hm1 : n - d ≤ (n.tdiv d - 1) * d := by omega
   have hm2 : (n.tdiv d - 1) * d ≤ n := by omega
   have M1 := Lib.hid m1
   have M2 := Lib.hid m2
   clear m1 m2 m3
   have hd1 : decide (n < n.tdiv d * d) = true := by simpa using hlt
   by_cases hx : nxB 1 (n.tdiv d - 1) (n - (n.tdiv d - 1) * d) d = true
   ·
    rw [rnd_up M1.out M2.out hx]
    go_enter Try.func85, Try.ntmps85
    go_wp2_with fail
    refine (next1_any _ _ _ _).mono ?_
    rintro e w' ⟨rfl, rfl⟩
    go_wp2_with fail
    go_ret
    refine ⟨ret_int (by simp), ?_⟩
    (repeat' (first | (with_reducible first | exact Below.refl _ _ | assumption | exact Bw.out (by assumption) | refine bw_alloc ?_ _ | refine bw_step ?_ (by assumption) | refine Below.alloc ?_ ?_ _ | refine Below.drew ?_ | refine below_drewN ?_ _ | refine Below.setCell ?_ ?_ _ | refine below_step ?_ (by assumption) ?_ | exact Nat.le_refl _) | omega | (simp; omega) | (simp; done)))
   by_cases hx : nxB 1 (n.tdiv d - 1) (n - (n.tdiv d - 1) * d) d = false
   ·
    rw [rnd_dn M1.out M2.out hx]
    go_enter Try.func85, Try.ntmps85
    go_wp2_with fail
    refine (next1_any _ _ _ _).mono ?_
    rintro e w' ⟨rfl, rfl⟩
    go_wp2_with fail
    go_ret
    refine ⟨ret_int (by simp), ?_⟩
    (repeat' (first | (with_reducible first | exact Below.refl _ _ | assumption | exact Bw.out (by assumption) | refine bw_alloc ?_ _ | refine bw_step ?_ (by assumption) | refine Below.alloc ?_ ?_ _ | refine Below.drew ?_ | refine below_drewN ?_ _ | refine Below.setCell ?_ ?_ _ | refine below_step ?_ (by assumption) ?_ | exact Nat.le_refl _) | omega | (simp; omega) | (simp; done)))
   exfalso; cases hz : nxB 1 (n.tdiv d - 1) (n - (n.tdiv d - 1) * d) d <;> simp_all
  ·
   obtain ⟨m1, m2⟩ := k6 (by omega)
   clear k5 k6
   have M1 := Lib.hid m1
   have M2 := Lib.hid m2
   have hm0 : 0 ≤ n - n.tdiv d * d := by omega
   have hm3 : n - n.tdiv d * d < d := by omega
   clear m1 m2
   have hd1 : decide (n < n.tdiv d * d) = false := by simpa using hlt
   by_cases hx : nxB 1 (n.tdiv d) (n - n.tdiv d * d) d = true
   ·
    rw [rnd_up M1.out M2.out hx]
    go_enter Try.func85, Try.ntmps85
    go_wp2_with fail
    refine (next1_any _ _ _ _).mono ?_
    rintro e w' ⟨rfl, rfl⟩
    go_wp2_with fail
    go_ret
    refine ⟨rfl, ?_⟩
    (repeat' (first | (with_reducible first | exact Below.refl _ _ | assumption | exact Bw.out (by assumption) | refine bw_alloc ?_ _ | refine bw_step ?_ (by assumption) | refine Below.alloc ?_ ?_ _ | refine Below.drew ?_ | refine below_drewN ?_ _ | refine Below.setCell ?_ ?_ _ | refine below_step ?_ (by assumption) ?_ | exact Nat.le_refl _) | omega | (simp; omega) | (simp; done)))
   by_cases hx : nxB 1 (n.tdiv d) (n - n.tdiv d * d) d = false
   ·
    rw [rnd_dn M1.out M2.out hx]
    go_enter Try.func85, Try.ntmps85
    go_wp2_with fail
    refine (next1_any _ _ _ _).mono ?_
    rintro e w' ⟨rfl, rfl⟩
    go_wp2_with fail
    go_ret
    refine ⟨rfl, ?_⟩
    (repeat' (first | (with_reducible first | exact Below.refl _ _ | assumption | exact Bw.out (by assumption) | refine bw_alloc ?_ _ | refine bw_step ?_ (by assumption) | refine Below.alloc ?_ ?_ _ | refine Below.drew ?_ | refine below_drewN ?_ _ | refine Below.setCell ?_ ?_ _ | refine below_step ?_ (by assumption) ?_ | exact Nat.le_refl _) | omega | (simp; omega) | (simp; done)))
   exfalso; cases hz : nxB 1 (n.tdiv d) (n - n.tdiv d * d) d <;> simp_all
set_option maxHeartbeats 1600000 in
theorem round2_any (n d : Int) (w : World) (h1 : -1000000000000000000 ≤ n) (h2 : n ≤ 1000000000000000000) (h3 : 1 ≤ d) (h4 : d ≤ 1000000) :
  Calls Try.prog 85 #[.agg #[.int .i64 n, .int .i64 d], .agg #[.func (.func 104) #[] #[]]] w fun e w' => e = .returned (.int .i64 (rnd 2 n d)) ∧ Below w.heap.size w w' := by
 by_cases hn : 0 ≤ n
 ·
  obtain ⟨k1, k2, k3, k4⟩ := floor_nonneg hn h3
  have k5 : 0 ≤ n / d * d := Int.mul_nonneg k3 (by omega)
  have k6 : decide (n < n / d * d) = false := by simp; omega
  have HK := Lib.hid k2
  have hr1 := Int.emod_nonneg n (show d ≠ 0 by omega)
  have hr2 := Int.emod_lt_of_pos n (show 0 < d by omega)
  clear k2
  by_cases hx : nxB 2 (n / d) (n - n / d * d) d = true
  ·
   rw [rnd_up rfl HK.out hx]
   go_enter Try.func85, Try.ntmps85
   go_wp2_with fail
   refine (next2_any _ _ _ _).mono ?_
   rintro e w' ⟨rfl, rfl⟩
   go_wp2_with fail
   go_ret
   refine ⟨rfl, ?_⟩
   (repeat' (first | (with_reducible first | exact Below.refl _ _ | assumption | exact Bw.out (by assumption) | refine bw_alloc ?_ _ | refine bw_step ?_ (by assumption) | refine Below.alloc ?_ ?_ _ | refine Below.drew ?_ | refine below_drewN ?_ _ | refine Below.setCell ?_ ?_ _ | refine below_step ?_ (by assumption) ?_ | exact Nat.le_refl _) | omega | (simp; omega) | (simp; done)))
  by_cases hx : nxB 2 (n / d) (n - n / d * d) d = false
  ·
   rw [rnd_dn rfl HK.out hx]
   go_enter Try.func85, Try.ntmps85
   go_wp2_with fail
   refine (next2_any _ _ _ _).mono ?_
   rintro e w' ⟨rfl, rfl⟩
   go_wp2_with fail
   go_ret
   refine ⟨rfl, ?_⟩
   (repeat' (first | (with_reducible first | exact Below.refl _ _ | assumption | exact Bw.out (by assumption) | refine bw_alloc ?_ _ | refine bw_step ?_ (by assumption) | refine Below.alloc ?_ ?_ _ | refine Below.drew ?_ | refine below_drewN ?_ _ | refine Below.setCell ?_ ?_ _ | refine below_step ?_ (by assumption) ?_ | exact Nat.le_refl _) | omega | (simp; omega) | (simp; done)))
  exfalso; cases hz : nxB 2 (n / d) (n - n / d * d) d <;> simp_all
 ·
  obtain ⟨k1, k2, k3, k4, k5, k6⟩ := floor_neg (n := n) (d := d) (by omega) h3
  have hr1 := Int.emod_nonneg n (show d ≠ 0 by omega)
  have hr2 := Int.emod_lt_of_pos n (show 0 < d by omega)
  by_cases hlt : n < n.tdiv d * d
  ·
   obtain ⟨m1, m2, m3⟩ := k5 hlt
   clear k5 k6
   have hm1 : n - d ≤ (n.tdiv d - 1) * d := by omega
   have hm2 : (n.tdiv d - 1) * d ≤ n := by omega
   have M1 := Lib.hid m1
   have M2 := Lib.hid m2
   clear m1 m2 m3
   have hd1 : decide (n < n.tdiv d * d) = true := by simpa using hlt
   by_cases hx : nxB 2 (n.tdiv d - 1) (n - (n.tdiv d - 1) * d) d = true
   ·
    rw [rnd_up M1.out M2.out hx]
    go_enter Try.func85, Try.ntmps85
    go_wp2_with fail
    refine (next2_any _ _ _ _).mono ?_
    rintro e w' ⟨rfl, rfl⟩
    go_wp2_with fail
    go_ret
    refine ⟨ret_int (by simp), ?_⟩
    (repeat' (first | (with_reducible first | exact Below.refl _ _ | assumption | exact Bw.out (by assumption) | refine bw_alloc ?_ _ | refine bw_step ?_ (by assumption) | refine Below.alloc ?_ ?_ _ | refine Below.drew ?_ | refine below_drewN ?_ _ | refine Below.setCell ?_ ?_ _ | refine below_step ?_ (by assumption) ?_ | exact Nat.le_refl _) | omega | (simp; omega) | (simp; done)))
   by_cases hx : nxB 2 (n.tdiv d - 1) (n - (n.tdiv d - 1) * d) d = false
   ·
    rw [rnd_dn M1.out M2.out hx]
    go_enter Try.func85, Try.ntmps85
    go_wp2_with fail
    refine (next2_any _ _ _ _).mono ?_
    rintro e w' ⟨rfl, rfl⟩
    go_wp2_with fail
    go_ret
    refine ⟨ret_int (by simp), ?_⟩
    (repeat' (first | (with_reducible first | exact Below.refl _ _ | assumption | exact Bw.out (by assumption) | refine bw_alloc ?_ _ | refine bw_step ?_ (by assumption) | refine Below.alloc ?_ ?_ _ | refine Below.drew ?_ | refine below_drewN ?_ _ | refine Below.setCell ?_ ?_ _ | refine below_step ?_ (by assumption) ?_ | exact Nat.le_refl _) | omega | (simp; omega) | (simp; done)))
   exfalso; cases hz : nxB 2 (n.tdiv d - 1) (n - (n.tdiv d - 1) * d) d <;> simp_all
  ·
   obtain ⟨m1, m2⟩ := k6 (by omega)
   clear k5 k6
   have M1 := Lib.hid m1
   have M2 := Lib.hid m2
   have hm0 : 0 ≤ n - n.tdiv d * d := by omega
   have hm3 : n - n.tdiv d * d < d := by omega
   clear m1 m2
   have hd1 : decide (n < n.tdiv d * d) = false := by simpa using hlt
   by_cases hx : nxB 2 (n.tdiv d) (n - n.tdiv d * d) d = true
   ·
    rw [rnd_up M1.out M2.out hx]
    go_enter Try.func85, Try.ntmps85
    go_wp2_with fail
    refine (next2_any _ _ _ _).mono ?_
    rintro e w' ⟨rfl, rfl⟩
    go_wp2_with fail
    go_ret
    refine ⟨rfl, ?_⟩
    (repeat' (first | (with_reducible first | exact Below.refl _ _ | assumption | exact Bw.out (by assumption) | refine bw_alloc ?_ _ | refine bw_step ?_ (by assumption) | refine Below.alloc ?_ ?_ _ | refine Below.drew ?_ | refine below_drewN ?_ _ | refine Below.setCell ?_ ?_ _ | refine below_step ?_ (by assumption) ?_ | exact Nat.le_refl _) | omega | (simp; omega) | (simp; done)))
   by_cases hx : nxB 2 (n.tdiv d) (n - n.tdiv d * d) d = false
   ·
    rw [rnd_dn M1.out M2.out hx]
    go_enter Try.func85, Try.ntmps85
    go_wp2_with fail
    refine (next2_any _ _ _ _).mono ?_
    rintro e w' ⟨rfl, rfl⟩
    go_wp2_with fail
    go_ret
    refine ⟨rfl, ?_⟩
    (repeat' (first | (with_reducible first | exact Below.refl _ _ | assumption | exact Bw.out (by assumption) | refine bw_alloc ?_ _ | refine bw_step ?_ (by assumption) | refine Below.alloc ?_ ?_ _ | refine Below.drew ?_ | refine below_drewN ?_ _ | refine Below.setCell ?_ ?_ _ | refine below_step ?_ (by assumption) ?_ | exact Nat.le_refl _) | omega | (simp; omega) | (simp; done)))
   exfalso; cases hz : nxB 2 (n.tdiv d) (n - n.tdiv d * d) d <;> simp_all
set_option maxHeartbeats 1600000 in
theorem round3_any (n d : Int) (w : World) (h1 : -1000000000000000000 ≤ n) (h2 : n ≤ 1000000000000000000) (h3 : 1 ≤ d) (h4 : d ≤ 1000000) :
  Calls Try.prog 85 #[.agg #[.int .i64 n, .int .i64 d], .agg #[.func (.func 105) #[] #[]]] w fun e w' => e = .returned (.int .i64 (rnd 3 n d)) ∧ Below w.heap.size w w' := by
 by_cases hn : 0 ≤ n
 ·
  obtain ⟨k1, k2, k3, k4⟩ := floor_nonneg hn h3
  have k5 : 0 ≤ n / d * d := Int.mul_nonneg k3 (by omega)
  have k6 : decide (n < n / d * d) = false := by simp; omega
  have HK := Lib.hid k2
  have hr1 := Int.emod_nonneg n (show d ≠ 0 by omega)
  have hr2 := Int.emod_lt_of_pos n (show 0 < d by omega)
  clear k2
  by_cases hx : nxB 3 (n / d) (n - n / d * d) d = true
  ·
   rw [rnd_up rfl HK.out hx]
   go_enter Try.func85, Try.ntmps85
   go_wp2_with fail
   refine (next3_any _ _ _ _ (by omega) (by omega)).mono ?_
   rintro e w' ⟨rfl, rfl⟩
   go_wp2_with fail
   go_ret
   refine ⟨rfl, ?_⟩
   (repeat' (first | (with_reducible first | exact Below.refl _ _ | assumption | exact Bw.out (by assumption) | refine bw_alloc ?_ _ | refine bw_step ?_ (by assumption) | refine Below.alloc ?_ ?_ _ | refine Below.drew ?_ | refine below_drewN ?_ _ | refine Below.setCell ?_ ?_ _ | refine below_step ?_ (by assumption) ?_ | exact Nat.le_refl _) | omega | (simp; omega) | (simp; done)))
  by_cases hx : nxB 3 (n / d) (n - n / d * d) d = false
  ·
   rw [rnd_dn rfl HK.out hx]
   go_enter Try.func85, Try.ntmps85
   go_wp2_with fail
   refine (next3_any _ _ _ _ (by omega) (by omega)).mono ?_
   rintro e w' ⟨rfl, rfl⟩
   go_wp2_with fail
   go_ret
   refine ⟨rfl, ?_⟩
   (repeat' (first | (with_reducible first | exact Below.refl _ _ | assumption | exact Bw.out (by assumption) | refine bw_alloc ?_ _ | refine bw_step ?_ (by assumption) | refine Below.alloc ?_ ?_ _ | refine Below.drew ?_ | refine below_drewN ?_ _ | refine Below.setCell ?_ ?_ _ | refine below_step ?_ (by assumption) ?_ | exact Nat.le_refl _) | omega | (simp; omega) | (simp; done)))
  exfalso; cases hz : nxB 3 (n / d) (n - n / d * d) d <;> simp_all
 ·
  obtain ⟨k1, k2, k3, k4, k5, k6⟩ := floor_neg (n := n) (d := d) (by omega) h3
  have hr1 := Int.emod_nonneg n (show d ≠ 0 by omega)
  have hr2 := Int.emod_lt_of_pos n (show 0 < d by omega)
  by_cases hlt : n < n.tdiv d * d
  ·
   obtain ⟨m1, m2, m3⟩ := k5 hlt
   clear k5 k6
   have hm1 : n - d ≤ (n.tdiv d - 1) * d := by omega
   have hm2 : (n.tdiv d - 1) * d ≤ n := by omega
   have M1 := Lib.hid m1
   have M2 := Lib.hid m2
   clear m1 m2 m3
   have hd1 : decide (n < n.tdiv d * d) = true := by simpa using hlt
   by_cases hx : nxB 3 (n.tdiv d - 1) (n - (n.tdiv d - 1) * d) d = true
   ·
    rw [rnd_up M1.out M2.out hx]
    go_enter Try.func85, Try.ntmps85
    go_wp2_with fail
    refine (next3_any _ _ _ _ (by omega) (by omega)).mono ?_
    rintro e w' ⟨rfl, rfl⟩
    go_wp2_with fail
    go_ret
    refine ⟨ret_int (by simp), ?_⟩
    (repeat' (first | (with_reducible first | exact Below.refl _ _ | assumption | exact Bw.out (by assumption) | refine bw_alloc ?_ _ | refine bw_step ?_ (by assumption) | refine Below.alloc ?_ ?_ _ | refine Below.drew ?_ | refine below_drewN ?_ _ | refine Below.setCell ?_ ?_ _ | refine below_step ?_ (by assumption) ?_ | exact Nat.le_refl _) | omega | (simp; omega) | (simp; done)))
   by_cases hx : nxB 3 (n.tdiv d - 1) (n - (n.tdiv d - 1) * d) d = false
   ·
    rw [rnd_dn M1.out M2.out hx]
    go_enter Try.func85, Try.ntmps85
    go_wp2_with fail
    refine (next3_any _ _ _ _ (by omega) (by omega)).mono ?_
    rintro e w' ⟨rfl, rfl⟩
    go_wp2_with fail
    go_ret
    refine ⟨ret_int (by simp), ?_⟩
    (repeat' (first | (with_reducible first | exact Below.refl _ _ | assumption | exact Bw.out (by assumption) | refine bw_alloc ?_ _ | refine bw_step ?_ (by assumption) | refine Below.alloc ?_ ?_ _ | refine Below.drew ?_ | refine below_drewN ?_ _ | refine Below.setCell ?_ ?_ _ | refine below_step ?_ (by assumption) ?_ | exact Nat.le_refl _) | omega | (simp; omega) | (simp; done)))
   exfalso; cases hz : nxB 3 (n.tdiv d - 1) (n - (n.tdiv d - 1) * d) d <;> simp_all
  ·
   obtain ⟨m1, m2⟩ := k6 (by omega)
   clear k5 k6
   have M1 := Lib.hid m1
   have M2 := Lib.hid m2
   have hm0 : 0 ≤ n - n.tdiv d * d := by omega
   have hm3 : n - n.tdiv d * d < d := by omega
   clear m1 m2
   have hd1 : decide (n < n.tdiv d * d) = false := by simpa using hlt
   by_cases hx : nxB 3 (n.tdiv d) (n - n.tdiv d * d) d = true
   ·
    rw [rnd_up M1.out M2.out hx]
    go_enter Try.func85, Try.ntmps85
    go_wp2_with fail
    refine (next3_any _ _ _ _ (by omega) (by omega)).mono ?_
    rintro e w' ⟨rfl, rfl⟩
    go_wp2_with fail
    go_ret
    refine ⟨rfl, ?_⟩
    (repeat' (first | (with_reducible first | exact Below.refl _ _ | assumption | exact Bw.out (by assumption) | refine bw_alloc ?_ _ | refine bw_step ?_ (by assumption) | refine Below.alloc ?_ ?_ _ | refine Below.drew ?_ | refine below_drewN ?_ _ | refine Below.setCell ?_ ?_ _ | refine below_step ?_ (by assumption) ?_ | exact Nat.le_refl _) | omega | (simp; omega) | (simp; done)))
   by_cases hx : nxB 3 (n.tdiv d) (n - n.tdiv d * d) d = false
   ·
    rw [rnd_dn M1.out M2.out hx]
    go_enter Try.func85, Try.ntmps85
    go_wp2_with fail
    refine (next3_any _ _ _ _ (by omega) (by omega)).mono ?_
    rintro e w' ⟨rfl, rfl⟩
    go_wp2_with fail
    go_ret
    refine ⟨rfl, ?_⟩
    (repeat' (first | (with_reducible first | exact Below.refl _ _ | assumption | exact Bw.out (by assumption) | refine bw_alloc ?_ _ | refine bw_step ?_ (by assumption) | refine Below.alloc ?_ ?_ _ | refine Below.drew ?_ | refine below_drewN ?_ _ | refine Below.setCell ?_ ?_ _ | refine below_step ?_ (by assumption) ?_ | exact Nat.le_refl _) | omega | (simp; omega) | (simp; done)))
   exfalso; cases hz : nxB 3 (n.tdiv d) (n - n.tdiv d * d) d <;> simp_all
end Go.Proofs.Ytcmodmchnokmgaa
