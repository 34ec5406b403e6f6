/-
  The walk of the example at the head of every statement on ratios: it returns true.
-/
import Derived.Test.YtmndiejojlmblaaRatT
import Derived.Test.YtmndiejojlmblaaRatV
import Derived.Test.YtmndiejojlmblaaRatR
namespace Go.Proofs.Ytmndiejojlmblaa
set_option linter.unusedSimpArgs false
set_option linter.unusedVariables false
open Go.RowKit

set_option maxHeartbeats 400000 in
theorem law_rat_any (n d : Int) (w : World) :
    Calls Try.prog 14 #[.int .i64 n, .int .i64 d] w fun e w' => e = .returned (.agg #[.int .i64 n, .int .i64 d]) ∧ Below w.heap.size w w' := by
  go_enter Try.func14, Try.ntmps14
  go_wp2
  go_returns
  refine ⟨rfl, ?_⟩
  (repeat' (first | (with_reducible exact Below.refl _ _) | (with_reducible assumption) | (with_reducible exact Bw.out (by with_reducible assumption)) | (with_reducible refine bw_alloc ?_ _) | (with_reducible refine bw_step ?_ (by with_reducible assumption)) | (with_reducible refine Below.alloc ?_ ?_ _) | (with_reducible refine Below.drew ?_) | (with_reducible refine below_drewN ?_ _) | (with_reducible refine Below.setCell ?_ ?_ _) | (with_reducible refine below_step ?_ (by with_reducible assumption) ?_) | (with_reducible exact Nat.le_refl _) | omega | (simp; omega) | (simp; done)))

/-- '==' and '!=' on two ratios. -/
theorem eql_rat (a b c d : Int) (w : World) : (binOp .eql 24 (.agg #[.int .i64 a, .int .i64 b]) (.agg #[.int .i64 c, .int .i64 d])).run Try.prog w = .ok (.bool (a == c && b == d)) w := by
  by_cases h1 : (a == c) = true
  · by_cases h2 : (b == d) = true
    · simp only [go_sem]; simp [go_sem, h1, h2]
    · simp only [go_sem]; simp [go_sem, h1, h2]
  · simp only [go_sem]; simp [go_sem, h1]
theorem neq_rat (a b c d : Int) (w : World) : (binOp .neq 24 (.agg #[.int .i64 a, .int .i64 b]) (.agg #[.int .i64 c, .int .i64 d])).run Try.prog w = .ok (.bool (!(a == c && b == d))) w := by
  by_cases h1 : (a == c) = true
  · by_cases h2 : (b == d) = true
    · simp only [go_sem]; simp [go_sem, h1, h2]
    · simp only [go_sem]; simp [go_sem, h1, h2]
  · simp only [go_sem]; simp [go_sem, h1]

theorem head_make1 (w : World) : Calls Try.prog 12 #[.int .i64 (6), .int .i64 (-4)] w fun e w' => e = .returned (.tuple #[.agg #[.int .i64 (-3), .int .i64 (2)], .int .i64 (0)]) ∧ Below w.heap.size w w' := by
  have h := make_any (6) (-4) w
  rwa [show mkN (6) (-4) = -3 from by decide +kernel, show mkD (6) (-4) = 2 from by decide +kernel, show mkE (6) (-4) = 0 from by decide +kernel] at h
theorem head_make2 (w : World) : Calls Try.prog 12 #[.int .i64 (1), .int .i64 (0)] w fun e w' => e = .returned (.tuple #[.agg #[.int .i64 (0), .int .i64 (0)], .int .i64 (1)]) ∧ Below w.heap.size w w' := by
  have h := make_any (1) (0) w
  rwa [show mkN (1) (0) = 0 from by decide +kernel, show mkD (1) (0) = 0 from by decide +kernel, show mkE (1) (0) = 1 from by decide +kernel] at h
theorem head_add (w : World) : Calls Try.prog 15 #[.agg #[.int .i64 1, .int .i64 2], .agg #[.int .i64 1, .int .i64 3]] w fun e w' => e = .returned (.tuple #[.agg #[.int .i64 5, .int .i64 6], .int .i64 0]) ∧ Below w.heap.size w w' := by
  have h := Add_any 1 2 1 3 w
  rwa [show opN 1 2 1 3 (1 * 3 + 1 * 2) (2 * 3) = 5 from by decide +kernel, show opD 1 2 1 3 (1 * 3 + 1 * 2) (2 * 3) = 6 from by decide +kernel, show opE 1 2 1 3 (1 * 3 + 1 * 2) (2 * 3) = 0 from by decide +kernel] at h
theorem head_mul (w : World) : Calls Try.prog 13 #[.agg #[.int .i64 1, .int .i64 1000000], .agg #[.int .i64 1, .int .i64 2]] w fun e w' => e = .returned (.tuple #[.agg #[.int .i64 0, .int .i64 0], .int .i64 3]) ∧ Below w.heap.size w w' := by
  have h := Mul_any 1 1000000 1 2 w
  rwa [show opN 1 1000000 1 2 (1 * 1) (1000000 * 2) = 0 from by decide +kernel, show opD 1 1000000 1 2 (1 * 1) (1000000 * 2) = 0 from by decide +kernel, show opE 1 1000000 1 2 (1 * 1) (1000000 * 2) = 3 from by decide +kernel] at h
theorem head_round1 (w : World) : Calls Try.prog 16 #[.agg #[.int .i64 (-5), .int .i64 2], .int .i64 1] w fun e w' => e = .returned (.tuple #[.int .i64 (-3), .int .i64 0]) ∧ Below w.heap.size w w' := by
  have h := Round_any (-5) 2 1 w
  rwa [show rdVal (-5) 2 1 = -3 from by decide +kernel, show rdErr (-5) 2 1 = 0 from by decide +kernel] at h
theorem head_round2 (w : World) : Calls Try.prog 16 #[.agg #[.int .i64 (-5), .int .i64 2], .int .i64 2] w fun e w' => e = .returned (.tuple #[.int .i64 (-2), .int .i64 0]) ∧ Below w.heap.size w w' := by
  have h := Round_any (-5) 2 2 w
  rwa [show rdVal (-5) 2 2 = -2 from by decide +kernel, show rdErr (-5) 2 2 = 0 from by decide +kernel] at h
theorem head_round3 (w : World) : Calls Try.prog 16 #[.agg #[.int .i64 (-5), .int .i64 2], .int .i64 3] w fun e w' => e = .returned (.tuple #[.int .i64 (-2), .int .i64 0]) ∧ Below w.heap.size w w' := by
  have h := Round_any (-5) 2 3 w
  rwa [show rdVal (-5) 2 3 = -2 from by decide +kernel, show rdErr (-5) 2 3 = 0 from by decide +kernel] at h
theorem head_part (w : World) : Calls Try.prog 17 #[.int .i64 1003, .agg #[.int .i64 1, .int .i64 2], .int .i64 3] w fun e w' => e = .returned (.tuple #[.int .i64 502, .int .i64 0]) ∧ Below w.heap.size w w' := by
  have h := Part_any 1003 1 2 3 w
  rwa [show ptVal 1003 1 2 3 = 502 from by decide +kernel, show ptErr 1003 1 2 3 = 0 from by decide +kernel] at h
theorem head_valid1 (w : World) : Calls Try.prog 20 #[.agg #[.int .i64 (-3), .int .i64 2]] w fun e w' => e = .returned (.bool true) ∧ Below w.heap.size w w' := by
  have h := valid_any (-3) 2 w
  rwa [show vld (-3) 2 = true from by decide +kernel] at h
theorem head_valid2 (w : World) : Calls Try.prog 20 #[.agg #[.int .i64 (2), .int .i64 4]] w fun e w' => e = .returned (.bool false) ∧ Below w.heap.size w w' := by
  have h := valid_any (2) 4 w
  rwa [show vld (2) 4 = false from by decide +kernel] at h
theorem head_valid3 (w : World) : Calls Try.prog 20 #[.agg #[.int .i64 (0), .int .i64 0]] w fun e w' => e = .returned (.bool false) ∧ Below w.heap.size w w' := by
  have h := valid_any (0) 0 w
  rwa [show vld (0) 0 = false from by decide +kernel] at h

attribute [local go_sem ↓] eql_rat neq_rat

set_option maxRecDepth 100000 in
set_option maxHeartbeats 4000000 in
theorem head_any (w : World) : Calls Try.prog 10 #[] w fun e w' => e = .returned (.bool true) ∧ Below w.heap.size w w' := by
  go_enter Try.func10, Try.ntmps10
  go_wp2_with fail
  refine (head_make1 _).mono ?_
  rintro e w1 ⟨rfl, hb1⟩
  go_wp2_with (first
    | (go_at_call 14; (with_reducible refine (law_rat_any _ _ _).mono ?_); rintro e w' ⟨rfl, hb⟩))
  refine (head_add _).mono ?_
  rintro e w2 ⟨rfl, hb2⟩
  go_wp2_with (first
    | (go_at_call 14; (with_reducible refine (law_rat_any _ _ _).mono ?_); rintro e w' ⟨rfl, hb⟩)
    | (go_at_call 16; first | ((with_reducible refine (head_round1 _).mono ?_); rintro e w' ⟨rfl, hb⟩) | ((with_reducible refine (head_round2 _).mono ?_); rintro e w' ⟨rfl, hb⟩) | ((with_reducible refine (head_round3 _).mono ?_); rintro e w' ⟨rfl, hb⟩))
    | (go_at_call 17; (with_reducible refine (head_part _).mono ?_); rintro e w' ⟨rfl, hb⟩)
    | (go_at_call 13; (with_reducible refine (head_mul _).mono ?_); rintro e w' ⟨rfl, hb⟩))
  refine (head_make2 _).mono ?_
  rintro e w3 ⟨rfl, hb3⟩
  have R1 : Row w3 w1.heap.size [.int .i64 (-3), .int .i64 2] := by (repeat' (first | (with_reducible assumption) | (with_reducible refine Row.new' _ _ _ (by first | rfl | (simp; done) | omega)) | (with_reducible refine Row.alloc ?_ _) | (with_reducible refine Row.drew ?_) | (with_reducible refine Row.drewN ?_ _) | (with_reducible refine Row.step ?_ (by with_reducible assumption))))
  have R2 : Row w3 w2.heap.size [.int .i64 5, .int .i64 6] := by (repeat' (first | (with_reducible assumption) | (with_reducible refine Row.new' _ _ _ (by first | rfl | (simp; done) | omega)) | (with_reducible refine Row.alloc ?_ _) | (with_reducible refine Row.drew ?_) | (with_reducible refine Row.drewN ?_ _) | (with_reducible refine Row.step ?_ (by with_reducible assumption))))
  have hB : Below w.heap.size w w3 := by (repeat' (first | (with_reducible exact Below.refl _ _) | (with_reducible assumption) | (with_reducible exact Bw.out (by with_reducible assumption)) | (with_reducible refine bw_alloc ?_ _) | (with_reducible refine bw_step ?_ (by with_reducible assumption)) | (with_reducible refine Below.alloc ?_ ?_ _) | (with_reducible refine Below.drew ?_) | (with_reducible refine below_drewN ?_ _) | (with_reducible refine Below.setCell ?_ ?_ _) | (with_reducible refine below_step ?_ (by with_reducible assumption) ?_) | (with_reducible exact Nat.le_refl _) | omega | (simp; omega) | (simp; done)))
  go_wp2_with fail
  have R1' := R1.alloc (.cells #[.int .i64 0, .int .i64 0] 24)
  have R2' := R2.alloc (.cells #[.int .i64 0, .int .i64 0] 24)
  have c1 := R1'.cell 0 rfl
  have c2 := R1'.cell 1 rfl
  have c3 := R2'.cell 0 rfl
  have c4 := R2'.cell 1 rfl
  have l1 := R1.lt
  have l2 := R2.lt
  go_region_held3 (fun w' => w'.cell? ⟨w1.heap.size, 0, none⟩ = some (.int .i64 (-3)) ∧ w'.cell? ⟨w1.heap.size, 1, none⟩ = some (.int .i64 2) ∧ w'.cell? ⟨w2.heap.size, 0, none⟩ = some (.int .i64 5) ∧ w'.cell? ⟨w2.heap.size, 1, none⟩ = some (.int .i64 6) ∧ w1.heap.size < w'.heap.size ∧ w2.heap.size < w'.heap.size ∧ Bw w.heap.size w w')
    (first
      | (refine ⟨by simp [go_sem, c1], by simp [go_sem, c2], by simp [go_sem, c3], by simp [go_sem, c4], by simp; omega, by simp; omega, ?_⟩; refine (?_ : Below _ _ _); (repeat' (first | (with_reducible exact Below.refl _ _) | (with_reducible assumption) | (with_reducible exact Bw.out (by with_reducible assumption)) | (with_reducible refine bw_alloc ?_ _) | (with_reducible refine bw_step ?_ (by with_reducible assumption)) | (with_reducible refine Below.alloc ?_ ?_ _) | (with_reducible refine Below.drew ?_) | (with_reducible refine below_drewN ?_ _) | (with_reducible refine Below.setCell ?_ ?_ _) | (with_reducible refine below_step ?_ (by with_reducible assumption) ?_) | (with_reducible exact Nat.le_refl _) | omega | (simp; omega) | (simp; done))))
      | (go_split_ands; refine ⟨?_, ?_, ?_, ?_, ?_, ?_, ?_⟩
         · (rw [hbx.cell (p := ⟨w1.heap.size, 0, none⟩) (by assumption)]; assumption)
         · (rw [hbx.cell (p := ⟨w1.heap.size, 1, none⟩) (by assumption)]; assumption)
         · (rw [hbx.cell (p := ⟨w2.heap.size, 0, none⟩) (by assumption)]; assumption)
         · (rw [hbx.cell (p := ⟨w2.heap.size, 1, none⟩) (by assumption)]; assumption)
         · (have := hbx.size; omega)
         · (have := hbx.size; omega)
         · (rename_i hbw; exact bw_step hbw hbx)))
    (first | (go_at_call 14; (with_reducible refine (law_rat_any _ _ _).mono ?_); rintro e wx ⟨rfl, hbx⟩))
  rename_i hH
  obtain ⟨d1, d2, d3, d4, d5, d6, hBw⟩ := hH
  have hB2 := hBw.out
  go_wp2_with (first
    | (go_at_call 14; (with_reducible refine (law_rat_any _ _ _).mono ?_); rintro e w' ⟨rfl, hb⟩)
    | (go_at_call 20; first | ((with_reducible refine (head_valid1 _).mono ?_); rintro e w' ⟨rfl, hb⟩) | ((with_reducible refine (head_valid2 _).mono ?_); rintro e w' ⟨rfl, hb⟩) | ((with_reducible refine (head_valid3 _).mono ?_); rintro e w' ⟨rfl, hb⟩)))
  go_ret
  refine ⟨rfl, ?_⟩
  (repeat' (first | (with_reducible exact Below.refl _ _) | (with_reducible assumption) | (with_reducible exact Bw.out (by with_reducible assumption)) | (with_reducible refine bw_alloc ?_ _) | (with_reducible refine bw_step ?_ (by with_reducible assumption)) | (with_reducible refine Below.alloc ?_ ?_ _) | (with_reducible refine Below.drew ?_) | (with_reducible refine below_drewN ?_ _) | (with_reducible refine Below.setCell ?_ ?_ _) | (with_reducible refine below_step ?_ (by with_reducible assumption) ?_) | (with_reducible exact Nat.le_refl _) | omega | (simp; omega) | (simp; done)))

end Go.Proofs.Ytmndiejojlmblaa
