/-
  The walks of package ratio, third part: Valid.
-/
import Derived.Test.YtcmodmchnokmgaaMB
import Derived.Deep.RegionHeld3
namespace Go.Proofs.Ytcmodmchnokmgaa
set_option linter.unusedSimpArgs false
set_option linter.unusedVariables false
open Go.RowKit

/-- '==' on two fractions. -/
theorem eql_fraction (a b c d : Int) (w : World) : (binOp .eql 124 (.agg #[.int .i64 a, .int .i64 b]) (.agg #[.int .i64 c, .int .i64 d])).run Try.prog w = .ok (.bool (a == c && b == d)) w := by
  by_cases h1 : (a == c) = true
  · by_cases h2 : (b == d) = true
    · simp only [go_sem]; simp [go_sem, h1, h2]
    · simp only [go_sem]; simp [go_sem, h1, h2]
  · simp only [go_sem]; simp [go_sem, h1]
attribute [local go_sem ↓] eql_fraction

set_option maxHeartbeats 800000 in
theorem valid_in (n d : Int) (w : World) (h1 : 1 ≤ d) (h2 : d ≤ 1000000) (h3 : -1000000000 ≤ n) (h4 : n ≤ 1000000000) :
    Calls Try.prog 75 #[.agg #[.int .i64 n, .int .i64 d]] w fun e w' => e = .returned (.bool (rN n d == n && rD n d == d)) ∧ Below w.heap.size w w' := by
  have hp := rD_pos (n := n) (d := d) (by omega)
  go_enter Try.func75, Try.ntmps75
  go_wp2_with fail
  go_region_held3 (fun w' => w'.cell? ⟨w.heap.size, 0, none⟩ = some (.int .i64 n) ∧ w'.cell? ⟨w.heap.size, 1, none⟩ = some (.int .i64 d) ∧ w.heap.size < w'.heap.size ∧ Bw w.heap.size w w')
    (first
      | (refine ⟨by simp, by simp, by simp, ?_⟩; refine (?_ : Below _ _ _); (repeat' (first | (with_reducible first | exact Below.refl _ _ | assumption | exact Bw.out (by assumption) | refine bw_alloc ?_ _ | refine bw_step ?_ (by assumption) | refine Below.alloc ?_ ?_ _ | refine Below.drew ?_ | refine below_drewN ?_ _ | refine Below.setCell ?_ ?_ _ | refine below_step ?_ (by assumption) ?_ | exact Nat.le_refl _) | omega | (simp; omega) | (simp; done))))
      | (go_split_ands; refine ⟨?_, ?_, ?_, ?_⟩
         · (rw [hb1.cell (p := ⟨w.heap.size, 0, none⟩) (by assumption)]; assumption)
         · (rw [hb1.cell (p := ⟨w.heap.size, 1, none⟩) (by assumption)]; assumption)
         · (have := hb1.size; omega)
         · (rename_i hbw; exact below_step hbw hb1 (by omega))))
    (first | (go_at_call 95; refine (reduced_any n d _ (by omega) (by omega) (by omega) (by omega)).mono ?_; rintro e w1 ⟨rfl, hb1⟩))
  go_wp2_with fail
  go_ret
  refine ⟨rfl, ?_⟩
  (repeat' (first | (with_reducible first | exact Below.refl _ _ | assumption | exact Bw.out (by assumption) | refine bw_alloc ?_ _ | refine bw_step ?_ (by assumption) | refine Below.alloc ?_ ?_ _ | refine Below.drew ?_ | refine below_drewN ?_ _ | refine Below.setCell ?_ ?_ _ | refine below_step ?_ (by assumption) ?_ | exact Nat.le_refl _) | omega | (simp; omega) | (simp; done)))

set_option maxHeartbeats 800000 in
theorem valid_out (n d : Int) (w : World) (h : d < 1 ∨ (1 ≤ d ∧ 1000000 < d) ∨ (1 ≤ d ∧ d ≤ 1000000 ∧ n < -1000000000) ∨ (1 ≤ d ∧ d ≤ 1000000 ∧ -1000000000 ≤ n ∧ 1000000000 < n)) :
    Calls Try.prog 75 #[.agg #[.int .i64 n, .int .i64 d]] w fun e w' => e = .returned (.bool false) ∧ Below w.heap.size w w' := by
  rcases h with h | ⟨h1, h2⟩ | ⟨h1, h2, h3⟩ | ⟨h1, h2, h3, h4⟩
  all_goals
    go_enter Try.func75, Try.ntmps75
    go_wp2_with fail
    go_ret
    refine ⟨rfl, ?_⟩
    (repeat' (first | (with_reducible first | exact Below.refl _ _ | assumption | exact Bw.out (by assumption) | refine bw_alloc ?_ _ | refine bw_step ?_ (by assumption) | refine Below.alloc ?_ ?_ _ | refine Below.drew ?_ | refine below_drewN ?_ _ | refine Below.setCell ?_ ?_ _ | refine below_step ?_ (by assumption) ?_ | exact Nat.le_refl _) | omega | (simp; omega) | (simp; done)))

theorem vld_false {n d : Int} (h : ¬ vldP n d) : vld n d = false := decide_eq_false h
theorem vld_true {n d : Int} (h : vldP n d) : vld n d = true := decide_eq_true h

/-- Valid, for every pair of integers. -/
theorem valid_any (n d : Int) (w : World) :
    Calls Try.prog 75 #[.agg #[.int .i64 n, .int .i64 d]] w fun e w' => e = .returned (.bool (vld n d)) ∧ Below w.heap.size w w' := by
  by_cases h1 : 1 ≤ d
  · by_cases h2 : d ≤ 1000000
    · by_cases h3 : -1000000000 ≤ n
      · by_cases h4 : n ≤ 1000000000
        · have e : vld n d = (rN n d == n && rD n d == d) := by
            rw [Bool.eq_iff_iff]; simp [vld, vld_r (n := n) (d := d) (by omega) h2 h3 h4]
          rw [e]
          exact valid_in n d w h1 h2 h3 h4
        · rw [vld_false (fun h => h4 h.2.2.2.1)]; exact valid_out n d w (by omega)
      · rw [vld_false (fun h => h3 h.2.2.1)]; exact valid_out n d w (by omega)
    · rw [vld_false (fun h => h2 h.2.1)]; exact valid_out n d w (by omega)
  · rw [vld_false (fun h => h1 h.1)]; exact valid_out n d w (by omega)

end Go.Proofs.Ytcmodmchnokmgaa
