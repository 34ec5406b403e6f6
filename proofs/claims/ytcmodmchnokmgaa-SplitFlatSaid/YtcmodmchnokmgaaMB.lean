/-
 Texts built as one: XRatX0, XRatX.
-/
import Derived.Test.YtcmodmchnokmgaaRatW
namespace Go.Proofs.Ytcmodmchnokmgaa
section
set_option linter.unusedSimpArgs false
set_option linter.unusedVariables false
theorem absI_le {n m : Int} (h1 : -m ≤ n) (h2 : n ≤ m) : absI n ≤ m := by rw [absI_eq]; omega
theorem absI_gt {n m : Int} (h0 : 0 ≤ m) (h : ¬ (-m ≤ n ∧ n ≤ m)) : m < absI n := by rw [absI_eq]; omega
end
section
set_option linter.unusedSimpArgs false
set_option linter.unusedVariables false
open Go.RowKit
set_option maxHeartbeats 400000 in
/-- A fraction made a ratio: in lowest terms, or refused where that does not fit. -/
theorem rat_any (n d : Int) (w : World) (h1 : -2000000000000000000 ≤ n) (h2 : n ≤ 2000000000000000000) (h3 : 1 ≤ d) (h4 : d ≤ 2000000000000000000) :
  Calls Try.prog 136 #[.agg #[.int .i64 n, .int .i64 d]] w fun e w' => e = .returned (.tuple #[.agg #[.int .i64 (fitN n d), .int .i64 (fitD n d)], .int .i64 (fitE n d)]) ∧ Below w.heap.size w w' := by
 have hp := rD_pos (n := n) (d := d) (by omega)
 have hl := rD_le (n := n) (d := d) (by omega)
 have hN := rN_bound (n := n) (d := d) (by omega)
 obtain ⟨hN1, hN2⟩ : -2000000000000000000 ≤ rN n d ∧ rN n d ≤ 2000000000000000000 := by omega
 by_cases hf : fitsP n d
 ·
  have g1 : fitN n d = rN n d := if_pos hf
  have g2 : fitD n d = rD n d := if_pos hf
  have g3 : fitE n d = 0 := if_pos hf
  rw [g1, g2, g3]
  clear g1 g2 g3
  obtain ⟨f1, f2, f3⟩ := hf
  have hb := absI_le f1 f2
  go_enter Try.func136, Try.ntmps136
  go_wp2_with fail
  refine (reduced_any n d _ h1 h2 h3 h4).mono ?_
  rintro e w1 ⟨rfl, hb1⟩
  obtain ⟨hc, hz⟩ := bcell hb1
  have hs : w.heap.size + 1 < w1.heap.size := by have := hb1.size; simp at this; omega
  go_wp2_with (go_at_call 86; refine (size_any _ _ (by omega) (by omega)).mono ?_; rintro e w' ⟨rfl, rfl⟩)
  refine bodyPost_ret (v := .tuple #[.agg #[.int .i64 (rN n d), .int .i64 (rD n d)], .int .i64 0]) (by simp [results, Try.results136, go_sem, hc, hs]) rfl ⟨rfl, ?_⟩
  (repeat' (first | (with_reducible first | exact Below.refl _ _ | assumption | exact Bw.out (by assumption) | refine bw_alloc ?_ _ | refine bw_step ?_ (by assumption) | refine Below.alloc ?_ ?_ _ | refine Below.drew ?_ | refine below_drewN ?_ _ | refine Below.setCell ?_ ?_ _ | refine below_step ?_ (by assumption) ?_ | exact Nat.le_refl _) | omega | (simp; omega) | (simp; done)))
 ·
  have g1 : fitN n d = 0 := if_neg hf
  have g2 : fitD n d = 0 := if_neg hf
  have g3 : fitE n d = 3 := if_neg hf
  rw [g1, g2, g3]
  clear g1 g2 g3
  by_cases hq : -1000000000 ≤ rN n d ∧ rN n d ≤ 1000000000
  ·
   have hb := absI_le hq.1 hq.2
   have hr : 1000000 < rD n d := by unfold fitsP at hf; omega
   clear hf hq
   go_enter Try.func136, Try.ntmps136
   go_wp2_with fail
   refine (reduced_any n d _ h1 h2 h3 h4).mono ?_
   rintro e w1 ⟨rfl, hb1⟩
   obtain ⟨hc, hz⟩ := bcell hb1
   have hs : w.heap.size + 1 < w1.heap.size := by have := hb1.size; simp at this; omega
   go_wp2_with (go_at_call 86; refine (size_any _ _ (by omega) (by omega)).mono ?_; rintro e w' ⟨rfl, rfl⟩)
   refine bodyPost_ret (v := .tuple #[.agg #[.int .i64 0, .int .i64 0], .int .i64 3]) (by simp [results, Try.results136, go_sem, hc, hs]) rfl ⟨rfl, ?_⟩
   (repeat' (first | (with_reducible first | exact Below.refl _ _ | assumption | exact Bw.out (by assumption) | refine bw_alloc ?_ _ | refine bw_step ?_ (by assumption) | refine Below.alloc ?_ ?_ _ | refine Below.drew ?_ | refine below_drewN ?_ _ | refine Below.setCell ?_ ?_ _ | refine below_step ?_ (by assumption) ?_ | exact Nat.le_refl _) | omega | (simp; omega) | (simp; done)))
  ·
   have hb := absI_gt (by omega) hq
   clear hf hq
   go_enter Try.func136, Try.ntmps136
   go_wp2_with fail
   refine (reduced_any n d _ h1 h2 h3 h4).mono ?_
   rintro e w1 ⟨rfl, hb1⟩
   obtain ⟨hc, hz⟩ := bcell hb1
   have hs : w.heap.size + 1 < w1.heap.size := by have := hb1.size; simp at this; omega
   go_wp2_with (go_at_call 86; refine (size_any _ _ (by omega) (by omega)).mono ?_; rintro e w' ⟨rfl, rfl⟩)
   refine bodyPost_ret (v := .tuple #[.agg #[.int .i64 0, .int .i64 0], .int .i64 3]) (by simp [results, Try.results136, go_sem, hc, hs]) rfl ⟨rfl, ?_⟩
   (repeat' (first | (with_reducible first | exact Below.refl _ _ | assumption | exact Bw.out (by assumption) | refine bw_alloc ?_ _ | refine bw_step ?_ (by assumption) | refine Below.alloc ?_ ?_ _ | refine Below.drew ?_ | refine below_drewN ?_ _ | refine Below.setCell ?_ ?_ _ | refine below_step ?_ (by assumption) ?_ | exact Nat.le_refl _) | omega | (simp; omega) | (simp; done)))
end
end Go.Proofs.Ytcmodmchnokmgaa
