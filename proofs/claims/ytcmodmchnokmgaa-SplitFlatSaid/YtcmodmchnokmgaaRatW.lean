/-
 The walks of package ratio: what each function returns, for every input that reaches it.
-/
import Derived.Test.YtcmodmchnokmgaaRows
import Derived.Test.YtcmodmchnokmgaaRatA
import Derived.Test.YtcmodmchnokmgaaMA
namespace Go.Proofs.Ytcmodmchnokmgaa
set_option linter.unusedSimpArgs false
set_option linter.unusedVariables false
open Go.RowKit
/-- The greater of n and -n. -/
def absI (n : Int) : Int := if n < 0 then -n else n
theorem absI_eq (n : Int) : absI n = n.natAbs := by unfold absI; split <;> omega
set_option maxHeartbeats 400000 in
theorem size_any (n : Int) (w : World) (h1 : -4611686018427387904 ≤ n) (h2 : n ≤ 4611686018427387904) :
  Calls Try.prog 86 #[.int .i64 n] w fun e w' => e = .returned (.int .i64 (absI n)) ∧ w = w' := by
 go_enter Try.func86, Try.ntmps86
 go_wp2
 all_goals
  go_ret
  exact ⟨ret_int (by unfold absI; split <;> omega), rfl⟩
set_option maxHeartbeats 400000 in
theorem common_any (k : Nat) : ∀ (a b : Nat) (p : Addr) (w : World), b ≤ k → a ≤ 4611686018427387904 → b ≤ 4611686018427387904 →
  w.cell? p = some (.func (.func 110) #[] #[.pointer (some p)]) →
  Calls Try.prog 110 #[.int .i64 a, .int .i64 b, .pointer (some p)] w fun e w' => e = .returned (.int .i64 (Nat.gcd a b : Nat)) ∧ ∃ n, w' = w.drewN n := by
 induction k with
 | zero =>
  intro a b p w hk ha hb hc
  obtain rfl : b = 0 := by omega
  go_enter Try.func110, Try.ntmps110
  go_wp2_with fail
  go_ret
  exact ⟨ret_int (by simp), 0, rfl⟩
 | succ k ih =>
  intro a b p w hk ha hb hc
  have hH := Lib.hid ih
  clear ih
  by_cases h0 : b = 0
  ·
   subst h0
   go_enter Try.func110, Try.ntmps110
   go_wp2_with fail
   go_ret
   exact ⟨ret_int (by simp), 0, rfl⟩
  ·
   have hm : a % b < b := Nat.mod_lt _ (by omega)
   have hg : Nat.gcd a b = Nat.gcd b (a % b) := by rw [Nat.gcd_comm a b, Nat.gcd_rec b a, Nat.gcd_comm]
   have HG := Lib.hid hg
   clear hg
   go_enter Try.func110, Try.ntmps110
   go_wp2_with fail
   go_quiet ((go_at_call 110; exact Calls.quiet_of (hH.out b (a % b) p _ (by omega) (by omega) (by omega) (by simpa using hc))))
   go_wp2
   go_ret
   exact ⟨ret_int (by rw [HG.out]), _, rfl⟩
theorem common_int (a b : Int) (p : Addr) (w : World) (ha0 : 0 ≤ a) (ha : a ≤ 4611686018427387904) (hb0 : 0 ≤ b) (hb : b ≤ 4611686018427387904)
  (hc : w.cell? p = some (.func (.func 110) #[] #[.pointer (some p)])) :
  Calls Try.prog 110 #[.int .i64 a, .int .i64 b, .pointer (some p)] w fun e w' => e = .returned (.int .i64 (gI a b)) ∧ ∃ n, w' = w.drewN n := by
 obtain ⟨x, rfl⟩ := Int.eq_ofNat_of_zero_le ha0
 obtain ⟨y, rfl⟩ := Int.eq_ofNat_of_zero_le hb0
 exact common_any y x y p w (Nat.le_refl _) (by omega) (by omega) hc
theorem common_abs (n b : Int) (p : Addr) (w : World) (h1 : -4611686018427387904 ≤ n) (h2 : n ≤ 4611686018427387904) (hb0 : 0 ≤ b) (hb : b ≤ 4611686018427387904)
  (hc : w.cell? p = some (.func (.func 110) #[] #[.pointer (some p)])) :
  Calls Try.prog 110 #[.int .i64 (absI n), .int .i64 b, .pointer (some p)] w fun e w' => e = .returned (.int .i64 (gI n b)) ∧ ∃ n, w' = w.drewN n := by
 have e : gI (absI n) b = gI n b := by rw [absI_eq]; unfold gI; simp [Int.gcd]
 have := absI_eq n
 rw [← e]
 exact common_int _ _ _ _ (by omega) (by omega) hb0 hb hc
set_option maxHeartbeats 400000 in
theorem reduced_any (n d : Int) (w : World) (h1 : -2000000000000000000 ≤ n) (h2 : n ≤ 2000000000000000000) (h3 : 1 ≤ d) (h4 : d ≤ 2000000000000000000) :
  Calls Try.prog 95 #[.agg #[.int .i64 n, .int .i64 d]] w fun e w' => e = .returned (.agg #[.int .i64 (rN n d), .int .i64 (rD n d)]) ∧ Below w.heap.size w w' := by
 have hg1 := gI_pos (n := n) (d := d) (by omega)
 have hg2 := gI_le (n := n) (d := d) (by omega)
 go_enter Try.func95, Try.ntmps95
 go_wp2_with fail
 go_quiet ((first | (go_at_call 86; exact Calls.quiet_of_same ((size_any _ _ (by omega) (by omega)).mono fun _ _ h => ⟨h.1, h.2.symm⟩)) | (go_at_call 110; exact Calls.quiet_of (common_abs _ _ _ _ (by omega) (by omega) (by omega) (by omega) (by simp [go_sem])))))
 go_wp2_with fail
 go_region
 go_wp2
 go_returns
 refine ⟨by rw [← rN_tdiv n d]; rfl, ?_⟩
 (repeat' (first | (with_reducible first | exact Below.refl _ _ | assumption | exact Bw.out (by assumption) | refine bw_alloc ?_ _ | refine bw_step ?_ (by assumption) | refine Below.alloc ?_ ?_ _ | refine Below.drew ?_ | refine below_drewN ?_ _ | refine Below.setCell ?_ ?_ _ | refine below_step ?_ (by assumption) ?_ | exact Nat.le_refl _) | omega | (simp; omega) | (simp; done)))
end Go.Proofs.Ytcmodmchnokmgaa
