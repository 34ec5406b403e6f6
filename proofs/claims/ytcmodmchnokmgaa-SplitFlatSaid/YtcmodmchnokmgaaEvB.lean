/-
 The walks of package rate: must, truth, compare, divide, and what the operators with two kids do.
-/
import Derived.Test.YtcmodmchnokmgaaEvA
import Derived.Test.YtcmodmchnokmgaaTyB
namespace Go.Proofs.Ytcmodmchnokmgaa
set_option linter.unusedSimpArgs false
set_option linter.unusedVariables false
open Go.RowKit
/-- A ratio, or the panic with its error. -/
def vE (t : V3) : Ending := if t.2.2 = 0 then .returned (.agg #[.int .i64 t.1, .int .i64 t.2.1]) else .panicked [{ v := .iface 138 (.agg #[.int .i64 t.2.2]), recovered := false }]
theorem vE_ok {t : V3} (h : t.2.2 = 0) : vE t = .returned (.agg #[.int .i64 t.1, .int .i64 t.2.1]) := if_pos h
theorem vE_no {t : V3} (h : t.2.2 ≠ 0) : vE t = .panicked [{ v := .iface 138 (.agg #[.int .i64 t.2.2]), recovered := false }] := if_neg h
set_option maxHeartbeats 800000 in
theorem must_ok (n d : Int) (w : World) : Calls Try.prog 112 #[.agg #[.int .i64 n, .int .i64 d], .int .i64 0] w fun e w' => e = .returned (.agg #[.int .i64 n, .int .i64 d]) ∧ Below w.heap.size w w' := by
 go_enter Try.func112, Try.ntmps112
 go_wp2_with fail
 refine bodyPost_ret (v := .agg #[.int .i64 n, .int .i64 d]) (by simp [results, Try.results112, go_sem]) rfl ⟨rfl, by (repeat' (first | (with_reducible first | exact Below.refl _ _ | assumption | exact Bw.out (by assumption) | refine bw_alloc ?_ _ | refine bw_step ?_ (by assumption) | refine Below.alloc ?_ ?_ _ | refine Below.drew ?_ | refine below_drewN ?_ _ | refine Below.setCell ?_ ?_ _ | refine below_step ?_ (by assumption) ?_ | exact Nat.le_refl _) | omega | (simp; omega) | (simp; done)))⟩
set_option maxHeartbeats 800000 in
theorem must_no (n d e : Int) (he : e ≠ 0) (w : World) : Calls Try.prog 112 #[.agg #[.int .i64 n, .int .i64 d], .int .i64 e] w fun e' w' => e' = .panicked [{ v := .iface 138 (.agg #[.int .i64 e]), recovered := false }] ∧ Below w.heap.size w w' := by
 have he' : (e != 0) = true := by simpa using he
 clear he
 go_enter Try.func112, Try.ntmps112
 go_wp2_with fail
 (try simp only [Exit.inBlock, Exit.then])
 exact ⟨rfl, rfl, by (repeat' (first | (with_reducible first | exact Below.refl _ _ | assumption | exact Bw.out (by assumption) | refine bw_alloc ?_ _ | refine bw_step ?_ (by assumption) | refine Below.alloc ?_ ?_ _ | refine Below.drew ?_ | refine below_drewN ?_ _ | refine Below.setCell ?_ ?_ _ | refine below_step ?_ (by assumption) ?_ | exact Nat.le_refl _) | omega | (simp; omega) | (simp; done)))⟩
set_option maxHeartbeats 800000 in
theorem truth_any (b : Bool) (w : World) : Calls Try.prog 122 #[.bool b] w fun e w' => e = .returned (.agg #[.int .i64 (trI b), .int .i64 1]) ∧ Below w.heap.size w w' := by
 cases b
 all_goals
  go_enter Try.func122, Try.ntmps122
  go_wp2_with fail
  refine bodyPost_ret (v := .agg #[.int .i64 (trI _), .int .i64 1]) (by simp [results, Try.results122, go_sem, trI]; try rfl) rfl ⟨rfl, by (repeat' (first | (with_reducible first | exact Below.refl _ _ | assumption | exact Bw.out (by assumption) | refine bw_alloc ?_ _ | refine bw_step ?_ (by assumption) | refine Below.alloc ?_ ?_ _ | refine Below.drew ?_ | refine below_drewN ?_ _ | refine Below.setCell ?_ ?_ _ | refine below_step ?_ (by assumption) ?_ | exact Nat.le_refl _) | omega | (simp; omega) | (simp; done)))⟩
set_option maxHeartbeats 800000 in
theorem cmp_any (a b c d : Int) (w : World) : Calls Try.prog 123 #[.agg #[.int .i64 a, .int .i64 b], .agg #[.int .i64 c, .int .i64 d]] w fun e w' => e = .returned (.int .i64 (cmpV a b c d)) ∧ Below w.heap.size w w' := by
 go_enter Try.func123, Try.ntmps123
 go_wp2_with fail
 refine (ratcmp_any a b c d _).mono ?_
 rintro e w1 ⟨rfl, hb1⟩
 have HB1 : Below w.heap.size w w1 := by (repeat' (first | (with_reducible first | exact Below.refl _ _ | assumption | exact Bw.out (by assumption) | refine bw_alloc ?_ _ | refine bw_step ?_ (by assumption) | refine Below.alloc ?_ ?_ _ | refine Below.drew ?_ | refine below_drewN ?_ _ | refine Below.setCell ?_ ?_ _ | refine below_step ?_ (by assumption) ?_ | exact Nat.le_refl _) | omega | (simp; omega) | (simp; done)))
 go_wp2_with fail
 go_ret
 refine ⟨(by first | rfl | exact ret_bool (by first | rfl | (simp; done) | (simp; omega))), ?_⟩
 (repeat' (first | (with_reducible first | exact Below.refl _ _ | assumption | exact Bw.out (by assumption) | refine bw_alloc ?_ _ | refine bw_step ?_ (by assumption) | refine Below.alloc ?_ ?_ _ | refine Below.drew ?_ | refine below_drewN ?_ _ | refine Below.setCell ?_ ?_ _ | refine below_step ?_ (by assumption) ?_ | exact Nat.le_refl _) | omega | (simp; omega) | (simp; done)))
theorem cmp_range (a b c d : Int) : cmpV a b c d = -1 ∨ cmpV a b c d = 0 ∨ cmpV a b c d = 1 := by
 unfold cmpV
 repeat' split
 all_goals simp
theorem vld_mul {a b c d : Int} (h1 : vldP a b) (h2 : vldP c d) : (-1000000000000000 ≤ a * d ∧ a * d ≤ 1000000000000000) ∧ (-1000000000000000 ≤ b * c ∧ b * c ≤ 1000000000000000) := by
 obtain ⟨_, _, h3, h4⟩ := prod_bounds h1 h2
 have e := Int.mul_comm b c
 have k := mul_le_1e15 (a := a) (b := d) (x := 1000000000) (y := 1000000) h1.2.2.1 h1.2.2.2.1 (by have := h2.1; omega) h2.2.1
 have k2 := mul_le_1e15 (a := b) (b := c) (x := 1000000) (y := 1000000000) (by have := h1.1; omega) h1.2.1 h2.2.2.1 h2.2.2.2.1
 omega
set_option maxHeartbeats 1600000 in
theorem divide_any (a b c d : Int) (w : World) (h1 : vldP a b) (h2 : vldP c d) : Calls Try.prog 119 #[.agg #[.int .i64 a, .int .i64 b], .agg #[.int .i64 c, .int .i64 d]] w fun e w' => e = .returned (.tuple #[.agg #[.int .i64 (ap2 7 a b c d).1, .int .i64 (ap2 7 a b c d).2.1], .int .i64 (ap2 7 a b c d).2.2]) ∧ Below w.heap.size w w' := by
 obtain ⟨⟨k1, k2⟩, k3, k4⟩ := vld_mul h1 h2
 clear h1 h2
 by_cases h0 : c = 0
 ·
  subst h0
  rw [show ap2 7 a b 0 d = (0, 0, 22) from rfl]
  go_enter Try.func119, Try.ntmps119
  go_wp2_with fail
  refine bodyPost_ret (v := .tuple #[.agg #[.int .i64 0, .int .i64 0], .int .i64 22]) (by simp [results, Try.results119, go_sem]) rfl ⟨rfl, by (repeat' (first | (with_reducible first | exact Below.refl _ _ | assumption | exact Bw.out (by assumption) | refine bw_alloc ?_ _ | refine bw_step ?_ (by assumption) | refine Below.alloc ?_ ?_ _ | refine Below.drew ?_ | refine below_drewN ?_ _ | refine Below.setCell ?_ ?_ _ | refine below_step ?_ (by assumption) ?_ | exact Nat.le_refl _) | omega | (simp; omega) | (simp; done)))⟩
 ·
  have he : ap2 7 a b c d = mk3 (a * d) (b * c) := by unfold ap2; simp [h0]
  have h0' : (c == 0) = false := by simpa using h0
  rw [he]
  clear h0 he
  go_enter Try.func119, Try.ntmps119
  go_wp2_with fail
  refine (make_any (a * d) (b * c) _).mono ?_
  rintro e w1 ⟨rfl, hb1⟩
  have R_o_1 : Row w1 (w.heap.size + 1 + 1) [.int .i64 (0), .int .i64 (0)] := by (repeat' (first | (with_reducible assumption) | (with_reducible refine Row.new' _ _ _ (by first | rfl | (simp; done) | omega)) | (with_reducible first | refine Row.alloc ?_ _ | refine Row.drew ?_ | refine Row.step ?_ (by assumption) | refine Row.drewN ?_ _) | (with_reducible refine Row.set2' ?_ _ _; first | exact ⟨_, _, by assumption⟩ | exact ⟨_, _, Row.alloc (by assumption) _⟩) | (with_reducible refine Row.other ?_ (by first | omega | (simp; omega)) _)))
  have c_o_0_1 := R_o_1.cell 0 rfl
  have c_o_1_1 := R_o_1.cell 1 rfl
  have z_o_0_1 := R_o_1.frozen 0
  have z_o_1_1 := R_o_1.frozen 1
  have l_o_1 := R_o_1.lt
  have HB1 : Below w.heap.size w w1 := by (repeat' (first | (with_reducible first | exact Below.refl _ _ | assumption | exact Bw.out (by assumption) | refine bw_alloc ?_ _ | refine bw_step ?_ (by assumption) | refine Below.alloc ?_ ?_ _ | refine Below.drew ?_ | refine below_drewN ?_ _ | refine Below.setCell ?_ ?_ _ | refine below_step ?_ (by assumption) ?_ | exact Nat.le_refl _) | omega | (simp; omega) | (simp; done)))
  go_wp2_with fail
  have RP := (R_o_1.set2 (.int .i64 (mkN (a * d) (b * c))) (.int .i64 (mkD (a * d) (b * c))))
  have q0 := RP.cell 0 rfl
  have q1 := RP.cell 1 rfl
  refine bodyPost_ret (v := .tuple #[.agg #[.int .i64 (mkN (a * d) (b * c)), .int .i64 (mkD (a * d) (b * c))], .int .i64 (mkE (a * d) (b * c))]) (by simp [results, Try.results119, go_sem, q0, q1]) rfl ⟨rfl, by (repeat' (first | (with_reducible first | exact Below.refl _ _ | assumption | exact Bw.out (by assumption) | refine bw_alloc ?_ _ | refine bw_step ?_ (by assumption) | refine Below.alloc ?_ ?_ _ | refine Below.drew ?_ | refine below_drewN ?_ _ | refine Below.setCell ?_ ?_ _ | refine below_step ?_ (by assumption) ?_ | exact Nat.le_refl _) | omega | (simp; omega) | (simp; done)))⟩
theorem Add_p (a b c d : Int) (h1 : vldP a b) (h2 : vldP c d) (N D E : Int) (h : ap2 4 a b c d = (N, D, E)) (w : World) :
  Calls Try.prog 113 #[.agg #[.int .i64 a, .int .i64 b], .agg #[.int .i64 c, .int .i64 d]] w fun e w' => e = .returned (.tuple #[.agg #[.int .i64 N, .int .i64 D], .int .i64 E]) ∧ Below w.heap.size w w' := by
 have e1 : (ap2 4 a b c d).1 = N := by rw [h]
 have e2 : (ap2 4 a b c d).2.1 = D := by rw [h]
 have e3 : (ap2 4 a b c d).2.2 = E := by rw [h]
 rw [← e1, ← e2, ← e3]
 exact (Add_any a b c d w)
set_option maxHeartbeats 1600000 in
theorem Add_op (a b c d : Int) (w : World) (h1 : vldP a b) (h2 : vldP c d) :
  Calls Try.prog 111 #[.agg #[.int .i64 a, .int .i64 b], .agg #[.int .i64 c, .int .i64 d]] w fun e w' => e = vE (ap2 4 a b c d) ∧ Below w.heap.size w w' := by
 obtain ⟨N, D, E, ht⟩ : ∃ N D E, ap2 4 a b c d = (N, D, E) := ⟨_, _, _, rfl⟩
 have HC := Lib.hid (Add_p a b c d h1 h2 N D E ht)
 rw [ht]
 clear ht h1 h2
 by_cases h0 : E = 0
 ·
  subst h0
  rw [vE_ok rfl]
  go_enter Try.func111, Try.ntmps111
  go_wp2_with fail
  refine (HC.out _).mono ?_
  rintro e w1 ⟨rfl, hb1⟩
  have R_o_1 : Row w1 (w.heap.size + 1 + 1) [.int .i64 (0), .int .i64 (0)] := by (repeat' (first | (with_reducible assumption) | (with_reducible refine Row.new' _ _ _ (by first | rfl | (simp; done) | omega)) | (with_reducible first | refine Row.alloc ?_ _ | refine Row.drew ?_ | refine Row.step ?_ (by assumption) | refine Row.drewN ?_ _) | (with_reducible refine Row.set2' ?_ _ _; first | exact ⟨_, _, by assumption⟩ | exact ⟨_, _, Row.alloc (by assumption) _⟩) | (with_reducible refine Row.other ?_ (by first | omega | (simp; omega)) _)))
  have c_o_0_1 := R_o_1.cell 0 rfl
  have c_o_1_1 := R_o_1.cell 1 rfl
  have z_o_0_1 := R_o_1.frozen 0
  have z_o_1_1 := R_o_1.frozen 1
  have l_o_1 := R_o_1.lt
  have HB1 : Below w.heap.size w w1 := by (repeat' (first | (with_reducible first | exact Below.refl _ _ | assumption | exact Bw.out (by assumption) | refine bw_alloc ?_ _ | refine bw_step ?_ (by assumption) | refine Below.alloc ?_ ?_ _ | refine Below.drew ?_ | refine below_drewN ?_ _ | refine Below.setCell ?_ ?_ _ | refine below_step ?_ (by assumption) ?_ | exact Nat.le_refl _) | omega | (simp; omega) | (simp; done)))
  go_wp2_with fail
  refine (must_ok N D _).mono ?_
  rintro e w2 ⟨rfl, hb2⟩
  have R_o_2 : Row w2 (w.heap.size + 1 + 1) [.int .i64 (0), .int .i64 (0)] := by (repeat' (first | (with_reducible assumption) | (with_reducible refine Row.new' _ _ _ (by first | rfl | (simp; done) | omega)) | (with_reducible first | refine Row.alloc ?_ _ | refine Row.drew ?_ | refine Row.step ?_ (by assumption) | refine Row.drewN ?_ _) | (with_reducible refine Row.set2' ?_ _ _; first | exact ⟨_, _, by assumption⟩ | exact ⟨_, _, Row.alloc (by assumption) _⟩) | (with_reducible refine Row.other ?_ (by first | omega | (simp; omega)) _)))
  have c_o_0_2 := R_o_2.cell 0 rfl
  have c_o_1_2 := R_o_2.cell 1 rfl
  have z_o_0_2 := R_o_2.frozen 0
  have z_o_1_2 := R_o_2.frozen 1
  have l_o_2 := R_o_2.lt
  have HB2 : Below w.heap.size w w2 := by (repeat' (first | (with_reducible first | exact Below.refl _ _ | assumption | exact Bw.out (by assumption) | refine bw_alloc ?_ _ | refine bw_step ?_ (by assumption) | refine Below.alloc ?_ ?_ _ | refine Below.drew ?_ | refine below_drewN ?_ _ | refine Below.setCell ?_ ?_ _ | refine below_step ?_ (by assumption) ?_ | exact Nat.le_refl _) | omega | (simp; omega) | (simp; done)))
  clear R_o_1 c_o_0_1 c_o_1_1 z_o_0_1 z_o_1_1 hb1 HB1
  go_wp2_with fail
  have RP := R_o_2.set2 (.int .i64 N) (.int .i64 D)
  have q0 := RP.cell 0 rfl
  have q1 := RP.cell 1 rfl
  refine bodyPost_ret (v := .agg #[.int .i64 N, .int .i64 D]) (by simp [results, Try.results111, go_sem, q0, q1]) rfl ⟨rfl, by (repeat' (first | (with_reducible first | exact Below.refl _ _ | assumption | exact Bw.out (by assumption) | refine bw_alloc ?_ _ | refine bw_step ?_ (by assumption) | refine Below.alloc ?_ ?_ _ | refine Below.drew ?_ | refine below_drewN ?_ _ | refine Below.setCell ?_ ?_ _ | refine below_step ?_ (by assumption) ?_ | exact Nat.le_refl _) | omega | (simp; omega) | (simp; done)))⟩
 ·
  rw [vE_no h0]
  go_enter Try.func111, Try.ntmps111
  go_wp2_with fail
  refine (HC.out _).mono ?_
  rintro e w1 ⟨rfl, hb1⟩
  have HB1 : Below w.heap.size w w1 := by (repeat' (first | (with_reducible first | exact Below.refl _ _ | assumption | exact Bw.out (by assumption) | refine bw_alloc ?_ _ | refine bw_step ?_ (by assumption) | refine Below.alloc ?_ ?_ _ | refine Below.drew ?_ | refine below_drewN ?_ _ | refine Below.setCell ?_ ?_ _ | refine below_step ?_ (by assumption) ?_ | exact Nat.le_refl _) | omega | (simp; omega) | (simp; done)))
  go_wp2_with fail
  refine (must_no N D E h0 _).mono ?_
  rintro e w2 ⟨rfl, hb2⟩
  (try simp only [Exit.inBlock, Exit.then])
  exact ⟨rfl, rfl, by (repeat' (first | (with_reducible first | exact Below.refl _ _ | assumption | exact Bw.out (by assumption) | refine bw_alloc ?_ _ | refine bw_step ?_ (by assumption) | refine Below.alloc ?_ ?_ _ | refine Below.drew ?_ | refine below_drewN ?_ _ | refine Below.setCell ?_ ?_ _ | refine below_step ?_ (by assumption) ?_ | exact Nat.le_refl _) | omega | (simp; omega) | (simp; done)))⟩
theorem Sub_p (a b c d : Int) (h1 : vldP a b) (h2 : vldP c d) (N D E : Int) (h : ap2 5 a b c d = (N, D, E)) (w : World) :
  Calls Try.prog 115 #[.agg #[.int .i64 a, .int .i64 b], .agg #[.int .i64 c, .int .i64 d]] w fun e w' => e = .returned (.tuple #[.agg #[.int .i64 N, .int .i64 D], .int .i64 E]) ∧ Below w.heap.size w w' := by
 have e1 : (ap2 5 a b c d).1 = N := by rw [h]
 have e2 : (ap2 5 a b c d).2.1 = D := by rw [h]
 have e3 : (ap2 5 a b c d).2.2 = E := by rw [h]
 rw [← e1, ← e2, ← e3]
 exact (Sub_any a b c d w)
set_option maxHeartbeats 1600000 in
theorem Sub_op (a b c d : Int) (w : World) (h1 : vldP a b) (h2 : vldP c d) :
  Calls Try.prog 114 #[.agg #[.int .i64 a, .int .i64 b], .agg #[.int .i64 c, .int .i64 d]] w fun e w' => e = vE (ap2 5 a b c d) ∧ Below w.heap.size w w' := by
 obtain ⟨N, D, E, ht⟩ : ∃ N D E, ap2 5 a b c d = (N, D, E) := ⟨_, _, _, rfl⟩
 have HC := Lib.hid (Sub_p a b c d h1 h2 N D E ht)
 rw [ht]
 clear ht h1 h2
 by_cases h0 : E = 0
 ·
  subst h0
  rw [vE_ok rfl]
  go_enter Try.func114, Try.ntmps114
  go_wp2_with fail
  refine (HC.out _).mono ?_
  rintro e w1 ⟨rfl, hb1⟩
  have R_o_1 : Row w1 (w.heap.size + 1 + 1) [.int .i64 (0), .int .i64 (0)] := by (repeat' (first | (with_reducible assumption) | (with_reducible refine Row.new' _ _ _ (by first | rfl | (simp; done) | omega)) | (with_reducible first | refine Row.alloc ?_ _ | refine Row.drew ?_ | refine Row.step ?_ (by assumption) | refine Row.drewN ?_ _) | (with_reducible refine Row.set2' ?_ _ _; first | exact ⟨_, _, by assumption⟩ | exact ⟨_, _, Row.alloc (by assumption) _⟩) | (with_reducible refine Row.other ?_ (by first | omega | (simp; omega)) _)))
  have c_o_0_1 := R_o_1.cell 0 rfl
  have c_o_1_1 := R_o_1.cell 1 rfl
  have z_o_0_1 := R_o_1.frozen 0
  have z_o_1_1 := R_o_1.frozen 1
  have l_o_1 := R_o_1.lt
  have HB1 : Below w.heap.size w w1 := by (repeat' (first | (with_reducible first | exact Below.refl _ _ | assumption | exact Bw.out (by assumption) | refine bw_alloc ?_ _ | refine bw_step ?_ (by assumption) | refine Below.alloc ?_ ?_ _ | refine Below.drew ?_ | refine below_drewN ?_ _ | refine Below.setCell ?_ ?_ _ | refine below_step ?_ (by assumption) ?_ | exact Nat.le_refl _) | omega | (simp; omega) | (simp; done)))
  go_wp2_with fail
  refine (must_ok N D _).mono ?_
  rintro e w2 ⟨rfl, hb2⟩
  have R_o_2 : Row w2 (w.heap.size + 1 + 1) [.int .i64 (0), .int .i64 (0)] := by (repeat' (first | (with_reducible assumption) | (with_reducible refine Row.new' _ _ _ (by first | rfl | (simp; done) | omega)) | (with_reducible first | refine Row.alloc ?_ _ | refine Row.drew ?_ | refine Row.step ?_ (by assumption) | refine Row.drewN ?_ _) | (with_reducible refine Row.set2' ?_ _ _; first | exact ⟨_, _, by assumption⟩ | exact ⟨_, _, Row.alloc (by assumption) _⟩) | (with_reducible refine Row.other ?_ (by first | omega | (simp; omega)) _)))
  have c_o_0_2 := R_o_2.cell 0 rfl
  have c_o_1_2 := R_o_2.cell 1 rfl
  have z_o_0_2 := R_o_2.frozen 0
  have z_o_1_2 := R_o_2.frozen 1
  have l_o_2 := R_o_2.lt
  have HB2 : Below w.heap.size w w2 := by (repeat' (first | (with_reducible first | exact Below.refl _ _ | assumption | exact Bw.out (by assumption) | refine bw_alloc ?_ _ | refine bw_step ?_ (by assumption) | refine Below.alloc ?_ ?_ _ | refine Below.drew ?_ | refine below_drewN ?_ _ | refine Below.setCell ?_ ?_ _ | refine below_step ?_ (by assumption) ?_ | exact Nat.le_refl _) | omega | (simp; omega) | (simp; done)))
  clear R_o_1 c_o_0_1 c_o_1_1 z_o_0_1 z_o_1_1 hb1 HB1
  go_wp2_with fail
  have RP := R_o_2.set2 (.int .i64 N) (.int .i64 D)
  have q0 := RP.cell 0 rfl
  have q1 := RP.cell 1 rfl
  refine bodyPost_ret (v := .agg #[.int .i64 N, .int .i64 D]) (by simp [results, Try.results114, go_sem, q0, q1]) rfl ⟨rfl, by (repeat' (first | (with_reducible first | exact Below.refl _ _ | assumption | exact Bw.out (by assumption) | refine bw_alloc ?_ _ | refine bw_step ?_ (by assumption) | refine Below.alloc ?_ ?_ _ | refine Below.drew ?_ | refine below_drewN ?_ _ | refine Below.setCell ?_ ?_ _ | refine below_step ?_ (by assumption) ?_ | exact Nat.le_refl _) | omega | (simp; omega) | (simp; done)))⟩
 ·
  rw [vE_no h0]
  go_enter Try.func114, Try.ntmps114
  go_wp2_with fail
  refine (HC.out _).mono ?_
  rintro e w1 ⟨rfl, hb1⟩
  have HB1 : Below w.heap.size w w1 := by (repeat' (first | (with_reducible first | exact Below.refl _ _ | assumption | exact Bw.out (by assumption) | refine bw_alloc ?_ _ | refine bw_step ?_ (by assumption) | refine Below.alloc ?_ ?_ _ | refine Below.drew ?_ | refine below_drewN ?_ _ | refine Below.setCell ?_ ?_ _ | refine below_step ?_ (by assumption) ?_ | exact Nat.le_refl _) | omega | (simp; omega) | (simp; done)))
  go_wp2_with fail
  refine (must_no N D E h0 _).mono ?_
  rintro e w2 ⟨rfl, hb2⟩
  (try simp only [Exit.inBlock, Exit.then])
  exact ⟨rfl, rfl, by (repeat' (first | (with_reducible first | exact Below.refl _ _ | assumption | exact Bw.out (by assumption) | refine bw_alloc ?_ _ | refine bw_step ?_ (by assumption) | refine Below.alloc ?_ ?_ _ | refine Below.drew ?_ | refine below_drewN ?_ _ | refine Below.setCell ?_ ?_ _ | refine below_step ?_ (by assumption) ?_ | exact Nat.le_refl _) | omega | (simp; omega) | (simp; done)))⟩
theorem Mul_p (a b c d : Int) (h1 : vldP a b) (h2 : vldP c d) (N D E : Int) (h : ap2 6 a b c d = (N, D, E)) (w : World) :
  Calls Try.prog 117 #[.agg #[.int .i64 a, .int .i64 b], .agg #[.int .i64 c, .int .i64 d]] w fun e w' => e = .returned (.tuple #[.agg #[.int .i64 N, .int .i64 D], .int .i64 E]) ∧ Below w.heap.size w w' := by
 have e1 : (ap2 6 a b c d).1 = N := by rw [h]
 have e2 : (ap2 6 a b c d).2.1 = D := by rw [h]
 have e3 : (ap2 6 a b c d).2.2 = E := by rw [h]
 rw [← e1, ← e2, ← e3]
 exact (Mul_any a b c d w)
set_option maxHeartbeats 1600000 in
theorem Mul_op (a b c d : Int) (w : World) (h1 : vldP a b) (h2 : vldP c d) :
  Calls Try.prog 116 #[.agg #[.int .i64 a, .int .i64 b], .agg #[.int .i64 c, .int .i64 d]] w fun e w' => e = vE (ap2 6 a b c d) ∧ Below w.heap.size w w' := by
 obtain ⟨N, D, E, ht⟩ : ∃ N D E, ap2 6 a b c d = (N, D, E) := ⟨_, _, _, rfl⟩
 have HC := Lib.hid (Mul_p a b c d h1 h2 N D E ht)
 rw [ht]
 clear ht h1 h2
 by_cases h0 : E = 0
 ·
  subst h0
  rw [vE_ok rfl]
  go_enter Try.func116, Try.ntmps116
  go_wp2_with fail
  refine (HC.out _).mono ?_
  rintro e w1 ⟨rfl, hb1⟩
  have R_o_1 : Row w1 (w.heap.size + 1 + 1) [.int .i64 (0), .int .i64 (0)] := by (repeat' (first | (with_reducible assumption) | (with_reducible refine Row.new' _ _ _ (by first | rfl | (simp; done) | omega)) | (with_reducible first | refine Row.alloc ?_ _ | refine Row.drew ?_ | refine Row.step ?_ (by assumption) | refine Row.drewN ?_ _) | (with_reducible refine Row.set2' ?_ _ _; first | exact ⟨_, _, by assumption⟩ | exact ⟨_, _, Row.alloc (by assumption) _⟩) | (with_reducible refine Row.other ?_ (by first | omega | (simp; omega)) _)))
  have c_o_0_1 := R_o_1.cell 0 rfl
  have c_o_1_1 := R_o_1.cell 1 rfl
  have z_o_0_1 := R_o_1.frozen 0
  have z_o_1_1 := R_o_1.frozen 1
  have l_o_1 := R_o_1.lt
  have HB1 : Below w.heap.size w w1 := by (repeat' (first | (with_reducible first | exact Below.refl _ _ | assumption | exact Bw.out (by assumption) | refine bw_alloc ?_ _ | refine bw_step ?_ (by assumption) | refine Below.alloc ?_ ?_ _ | refine Below.drew ?_ | refine below_drewN ?_ _ | refine Below.setCell ?_ ?_ _ | refine below_step ?_ (by assumption) ?_ | exact Nat.le_refl _) | omega | (simp; omega) | (simp; done)))
  go_wp2_with fail
  refine (must_ok N D _).mono ?_
  rintro e w2 ⟨rfl, hb2⟩
  have R_o_2 : Row w2 (w.heap.size + 1 + 1) [.int .i64 (0), .int .i64 (0)] := by (repeat' (first | (with_reducible assumption) | (with_reducible refine Row.new' _ _ _ (by first | rfl | (simp; done) | omega)) | (with_reducible first | refine Row.alloc ?_ _ | refine Row.drew ?_ | refine Row.step ?_ (by assumption) | refine Row.drewN ?_ _) | (with_reducible refine Row.set2' ?_ _ _; first | exact ⟨_, _, by assumption⟩ | exact ⟨_, _, Row.alloc (by assumption) _⟩) | (with_reducible refine Row.other ?_ (by first | omega | (simp; omega)) _)))
  have c_o_0_2 := R_o_2.cell 0 rfl
  have c_o_1_2 := R_o_2.cell 1 rfl
  have z_o_0_2 := R_o_2.frozen 0
  have z_o_1_2 := R_o_2.frozen 1
  have l_o_2 := R_o_2.lt
  have HB2 : Below w.heap.size w w2 := by (repeat' (first | (with_reducible first | exact Below.refl _ _ | assumption | exact Bw.out (by assumption) | refine bw_alloc ?_ _ | refine bw_step ?_ (by assumption) | refine Below.alloc ?_ ?_ _ | refine Below.drew ?_ | refine below_drewN ?_ _ | refine Below.setCell ?_ ?_ _ | refine below_step ?_ (by assumption) ?_ | exact Nat.le_refl _) | omega | (simp; omega) | (simp; done)))
  clear R_o_1 c_o_0_1 c_o_1_1 z_o_0_1 z_o_1_1 hb1 HB1
  go_wp2_with fail
  have RP := R_o_2.set2 (.int .i64 N) (.int .i64 D)
  have q0 := RP.cell 0 rfl
  have q1 := RP.cell 1 rfl
  refine bodyPost_ret (v := .agg #[.int .i64 N, .int .i64 D]) (by simp [results, Try.results116, go_sem, q0, q1]) rfl ⟨rfl, by (repeat' (first | (with_reducible first | exact Below.refl _ _ | assumption | exact Bw.out (by assumption) | refine bw_alloc ?_ _ | refine bw_step ?_ (by assumption) | refine Below.alloc ?_ ?_ _ | refine Below.drew ?_ | refine below_drewN ?_ _ | refine Below.setCell ?_ ?_ _ | refine below_step ?_ (by assumption) ?_ | exact Nat.le_refl _) | omega | (simp; omega) | (simp; done)))⟩
 ·
  rw [vE_no h0]
  go_enter Try.func116, Try.ntmps116
  go_wp2_with fail
  refine (HC.out _).mono ?_
  rintro e w1 ⟨rfl, hb1⟩
  have HB1 : Below w.heap.size w w1 := by (repeat' (first | (with_reducible first | exact Below.refl _ _ | assumption | exact Bw.out (by assumption) | refine bw_alloc ?_ _ | refine bw_step ?_ (by assumption) | refine Below.alloc ?_ ?_ _ | refine Below.drew ?_ | refine below_drewN ?_ _ | refine Below.setCell ?_ ?_ _ | refine below_step ?_ (by assumption) ?_ | exact Nat.le_refl _) | omega | (simp; omega) | (simp; done)))
  go_wp2_with fail
  refine (must_no N D E h0 _).mono ?_
  rintro e w2 ⟨rfl, hb2⟩
  (try simp only [Exit.inBlock, Exit.then])
  exact ⟨rfl, rfl, by (repeat' (first | (with_reducible first | exact Below.refl _ _ | assumption | exact Bw.out (by assumption) | refine bw_alloc ?_ _ | refine bw_step ?_ (by assumption) | refine Below.alloc ?_ ?_ _ | refine Below.drew ?_ | refine below_drewN ?_ _ | refine Below.setCell ?_ ?_ _ | refine below_step ?_ (by assumption) ?_ | exact Nat.le_refl _) | omega | (simp; omega) | (simp; done)))⟩
theorem Div_p (a b c d : Int) (h1 : vldP a b) (h2 : vldP c d) (N D E : Int) (h : ap2 7 a b c d = (N, D, E)) (w : World) :
  Calls Try.prog 119 #[.agg #[.int .i64 a, .int .i64 b], .agg #[.int .i64 c, .int .i64 d]] w fun e w' => e = .returned (.tuple #[.agg #[.int .i64 N, .int .i64 D], .int .i64 E]) ∧ Below w.heap.size w w' := by
 have e1 : (ap2 7 a b c d).1 = N := by rw [h]
 have e2 : (ap2 7 a b c d).2.1 = D := by rw [h]
 have e3 : (ap2 7 a b c d).2.2 = E := by rw [h]
 rw [← e1, ← e2, ← e3]
 exact (divide_any a b c d w h1 h2)
set_option maxHeartbeats 1600000 in
theorem Div_op (a b c d : Int) (w : World) (h1 : vldP a b) (h2 : vldP c d) :
  Calls Try.prog 118 #[.agg #[.int .i64 a, .int .i64 b], .agg #[.int .i64 c, .int .i64 d]] w fun e w' => e = vE (ap2 7 a b c d) ∧ Below w.heap.size w w' := by
 obtain ⟨N, D, E, ht⟩ : ∃ N D E, ap2 7 a b c d = (N, D, E) := ⟨_, _, _, rfl⟩
 have HC := Lib.hid (Div_p a b c d h1 h2 N D E ht)
 rw [ht]
 clear ht h1 h2
 by_cases h0 : E = 0
 ·
  subst h0
  rw [vE_ok rfl]
  go_enter Try.func118, Try.ntmps118
  go_wp2_with fail
  refine (HC.out _).mono ?_
  rintro e w1 ⟨rfl, hb1⟩
  have R_o_1 : Row w1 (w.heap.size + 1 + 1) [.int .i64 (0), .int .i64 (0)] := by (repeat' (first | (with_reducible assumption) | (with_reducible refine Row.new' _ _ _ (by first | rfl | (simp; done) | omega)) | (with_reducible first | refine Row.alloc ?_ _ | refine Row.drew ?_ | refine Row.step ?_ (by assumption) | refine Row.drewN ?_ _) | (with_reducible refine Row.set2' ?_ _ _; first | exact ⟨_, _, by assumption⟩ | exact ⟨_, _, Row.alloc (by assumption) _⟩) | (with_reducible refine Row.other ?_ (by first | omega | (simp; omega)) _)))
  have c_o_0_1 := R_o_1.cell 0 rfl
  have c_o_1_1 := R_o_1.cell 1 rfl
  have z_o_0_1 := R_o_1.frozen 0
  have z_o_1_1 := R_o_1.frozen 1
  have l_o_1 := R_o_1.lt
  have HB1 : Below w.heap.size w w1 := by (repeat' (first | (with_reducible first | exact Below.refl _ _ | assumption | exact Bw.out (by assumption) | refine bw_alloc ?_ _ | refine bw_step ?_ (by assumption) | refine Below.alloc ?_ ?_ _ | refine Below.drew ?_ | refine below_drewN ?_ _ | refine Below.setCell ?_ ?_ _ | refine below_step ?_ (by assumption) ?_ | exact Nat.le_refl _) | omega | (simp; omega) | (simp; done)))
  go_wp2_with fail
  refine (must_ok N D _).mono ?_
  rintro e w2 ⟨rfl, hb2⟩
  have R_o_2 : Row w2 (w.heap.size + 1 + 1) [.int .i64 (0), .int .i64 (0)] := by (repeat' (first | (with_reducible assumption) | (with_reducible refine Row.new' _ _ _ (by first | rfl | (simp; done) | omega)) | (with_reducible first | refine Row.alloc ?_ _ | refine Row.drew ?_ | refine Row.step ?_ (by assumption) | refine Row.drewN ?_ _) | (with_reducible refine Row.set2' ?_ _ _; first | exact ⟨_, _, by assumption⟩ | exact ⟨_, _, Row.alloc (by assumption) _⟩) | (with_reducible refine Row.other ?_ (by first | omega | (simp; omega)) _)))
  have c_o_0_2 := R_o_2.cell 0 rfl
  have c_o_1_2 := R_o_2.cell 1 rfl
  have z_o_0_2 := R_o_2.frozen 0
  have z_o_1_2 := R_o_2.frozen 1
  have l_o_2 := R_o_2.lt
  have HB2 : Below w.heap.size w w2 := by (repeat' (first | (with_reducible first | exact Below.refl _ _ | assumption | exact Bw.out (by assumption) | refine bw_alloc ?_ _ | refine bw_step ?_ (by assumption) | refine Below.alloc ?_ ?_ _ | refine Below.drew ?_ | refine below_drewN ?_ _ | refine Below.setCell ?_ ?_ _ | refine below_step ?_ (by assumption) ?_ | exact Nat.le_refl _) | omega | (simp; omega) | (simp; done)))
  clear R_o_1 c_o_0_1 c_o_1_1 z_o_0_1 z_o_1_1 hb1 HB1
  go_wp2_with fail
  have RP := R_o_2.set2 (.int .i64 N) (.int .i64 D)
  have q0 := RP.cell 0 rfl
  have q1 := RP.cell 1 rfl
  refine bodyPost_ret (v := .agg #[.int .i64 N, .int .i64 D]) (by simp [results, Try.results118, go_sem, q0, q1]) rfl ⟨rfl, by (repeat' (first | (with_reducible first | exact Below.refl _ _ | assumption | exact Bw.out (by assumption) | refine bw_alloc ?_ _ | refine bw_step ?_ (by assumption) | refine Below.alloc ?_ ?_ _ | refine Below.drew ?_ | refine below_drewN ?_ _ | refine Below.setCell ?_ ?_ _ | refine below_step ?_ (by assumption) ?_ | exact Nat.le_refl _) | omega | (simp; omega) | (simp; done)))⟩
 ·
  rw [vE_no h0]
  go_enter Try.func118, Try.ntmps118
  go_wp2_with fail
  refine (HC.out _).mono ?_
  rintro e w1 ⟨rfl, hb1⟩
  have HB1 : Below w.heap.size w w1 := by (repeat' (first | (with_reducible first | exact Below.refl _ _ | assumption | exact Bw.out (by assumption) | refine bw_alloc ?_ _ | refine bw_step ?_ (by assumption) | refine Below.alloc ?_ ?_ _ | refine Below.drew ?_ | refine below_drewN ?_ _ | refine Below.setCell ?_ ?_ _ | refine below_step ?_ (by assumption) ?_ | exact Nat.le_refl _) | omega | (simp; omega) | (simp; done)))
  go_wp2_with fail
  refine (must_no N D E h0 _).mono ?_
  rintro e w2 ⟨rfl, hb2⟩
  (try simp only [Exit.inBlock, Exit.then])
  exact ⟨rfl, rfl, by (repeat' (first | (with_reducible first | exact Below.refl _ _ | assumption | exact Bw.out (by assumption) | refine bw_alloc ?_ _ | refine bw_step ?_ (by assumption) | refine Below.alloc ?_ ?_ _ | refine Below.drew ?_ | refine below_drewN ?_ _ | refine Below.setCell ?_ ?_ _ | refine below_step ?_ (by assumption) ?_ | exact Nat.le_refl _) | omega | (simp; omega) | (simp; done)))⟩
set_option maxHeartbeats 1600000 in
theorem Less_op (a b c d : Int) (w : World) :
  Calls Try.prog 121 #[.agg #[.int .i64 a, .int .i64 b], .agg #[.int .i64 c, .int .i64 d]] w fun e w' => e = vE (ap2 11 a b c d) ∧ Below w.heap.size w w' := by
 have HC := cmp_any a b c d
 obtain ⟨V, hV⟩ : ∃ V, cmpV a b c d = V := ⟨_, rfl⟩
 have ht : ap2 11 a b c d = (trI (decide (V < 0)), 1, 0) := by rw [← hV]; rfl
 rw [hV] at HC
 rw [ht, vE_ok rfl]
 have H := Lib.hid HC
 clear hV ht HC
 obtain ⟨B, hB⟩ : ∃ B, (decide (V < 0)) = B := ⟨_, rfl⟩
 have hB2 : (decide (V < 0)) = B := by rw [← hB]; try rfl
 rw [hB]
 clear hB
 go_enter Try.func121, Try.ntmps121
 go_wp2_with fail
 refine (H.out _).mono ?_
 rintro e w1 ⟨rfl, hb1⟩
 have R_o_1 : Row w1 (w.heap.size + 1 + 1) [.int .i64 (0), .int .i64 (0)] := by (repeat' (first | (with_reducible assumption) | (with_reducible refine Row.new' _ _ _ (by first | rfl | (simp; done) | omega)) | (with_reducible first | refine Row.alloc ?_ _ | refine Row.drew ?_ | refine Row.step ?_ (by assumption) | refine Row.drewN ?_ _) | (with_reducible refine Row.set2' ?_ _ _; first | exact ⟨_, _, by assumption⟩ | exact ⟨_, _, Row.alloc (by assumption) _⟩) | (with_reducible refine Row.other ?_ (by first | omega | (simp; omega)) _)))
 have c_o_0_1 := R_o_1.cell 0 rfl
 have c_o_1_1 := R_o_1.cell 1 rfl
 have z_o_0_1 := R_o_1.frozen 0
 have z_o_1_1 := R_o_1.frozen 1
 have l_o_1 := R_o_1.lt
 have HB1 : Below w.heap.size w w1 := by (repeat' (first | (with_reducible first | exact Below.refl _ _ | assumption | exact Bw.out (by assumption) | refine bw_alloc ?_ _ | refine bw_step ?_ (by assumption) | refine Below.alloc ?_ ?_ _ | refine Below.drew ?_ | refine below_drewN ?_ _ | refine Below.setCell ?_ ?_ _ | refine below_step ?_ (by assumption) ?_ | exact Nat.le_refl _) | omega | (simp; omega) | (simp; done)))
 go_wp2_with fail
 refine (truth_any B _).mono ?_
 rintro e w2 ⟨rfl, hb2⟩
 have R_o_2 : Row w2 (w.heap.size + 1 + 1) [.int .i64 (0), .int .i64 (0)] := by (repeat' (first | (with_reducible assumption) | (with_reducible refine Row.new' _ _ _ (by first | rfl | (simp; done) | omega)) | (with_reducible first | refine Row.alloc ?_ _ | refine Row.drew ?_ | refine Row.step ?_ (by assumption) | refine Row.drewN ?_ _) | (with_reducible refine Row.set2' ?_ _ _; first | exact ⟨_, _, by assumption⟩ | exact ⟨_, _, Row.alloc (by assumption) _⟩) | (with_reducible refine Row.other ?_ (by first | omega | (simp; omega)) _)))
 have c_o_0_2 := R_o_2.cell 0 rfl
 have c_o_1_2 := R_o_2.cell 1 rfl
 have z_o_0_2 := R_o_2.frozen 0
 have z_o_1_2 := R_o_2.frozen 1
 have l_o_2 := R_o_2.lt
 have HB2 : Below w.heap.size w w2 := by (repeat' (first | (with_reducible first | exact Below.refl _ _ | assumption | exact Bw.out (by assumption) | refine bw_alloc ?_ _ | refine bw_step ?_ (by assumption) | refine Below.alloc ?_ ?_ _ | refine Below.drew ?_ | refine below_drewN ?_ _ | refine Below.setCell ?_ ?_ _ | refine below_step ?_ (by assumption) ?_ | exact Nat.le_refl _) | omega | (simp; omega) | (simp; done)))
 clear R_o_1 c_o_0_1 c_o_1_1 z_o_0_1 z_o_1_1 hb1 HB1
 go_wp2_with fail
 have RP := R_o_2.set2 (.int .i64 (trI B)) (.int .i64 1)
 have q0 := RP.cell 0 rfl
 have q1 := RP.cell 1 rfl
 refine bodyPost_ret (v := .agg #[.int .i64 (trI B), .int .i64 1]) (by simp [results, Try.results121, go_sem, q0, q1]) rfl ⟨rfl, by (repeat' (first | (with_reducible first | exact Below.refl _ _ | assumption | exact Bw.out (by assumption) | refine bw_alloc ?_ _ | refine bw_step ?_ (by assumption) | refine Below.alloc ?_ ?_ _ | refine Below.drew ?_ | refine below_drewN ?_ _ | refine Below.setCell ?_ ?_ _ | refine below_step ?_ (by assumption) ?_ | exact Nat.le_refl _) | omega | (simp; omega) | (simp; done)))⟩
set_option maxHeartbeats 1600000 in
theorem Same_op (a b c d : Int) (w : World) :
  Calls Try.prog 124 #[.agg #[.int .i64 a, .int .i64 b], .agg #[.int .i64 c, .int .i64 d]] w fun e w' => e = vE (ap2 12 a b c d) ∧ Below w.heap.size w w' := by
 have HC := cmp_any a b c d
 obtain ⟨V, hV⟩ : ∃ V, cmpV a b c d = V := ⟨_, rfl⟩
 have ht : ap2 12 a b c d = (trI (decide (V = 0)), 1, 0) := by rw [← hV]; rfl
 rw [hV] at HC
 rw [ht, vE_ok rfl]
 have H := Lib.hid HC
 clear hV ht HC
 obtain ⟨B, hB⟩ : ∃ B, (decide (V = 0)) = B := ⟨_, rfl⟩
 have hB2 : (V == 0) = B := by rw [← hB]; try rfl
 rw [hB]
 clear hB
 go_enter Try.func124, Try.ntmps124
 go_wp2_with fail
 refine (H.out _).mono ?_
 rintro e w1 ⟨rfl, hb1⟩
 have R_o_1 : Row w1 (w.heap.size + 1 + 1) [.int .i64 (0), .int .i64 (0)] := by (repeat' (first | (with_reducible assumption) | (with_reducible refine Row.new' _ _ _ (by first | rfl | (simp; done) | omega)) | (with_reducible first | refine Row.alloc ?_ _ | refine Row.drew ?_ | refine Row.step ?_ (by assumption) | refine Row.drewN ?_ _) | (with_reducible refine Row.set2' ?_ _ _; first | exact ⟨_, _, by assumption⟩ | exact ⟨_, _, Row.alloc (by assumption) _⟩) | (with_reducible refine Row.other ?_ (by first | omega | (simp; omega)) _)))
 have c_o_0_1 := R_o_1.cell 0 rfl
 have c_o_1_1 := R_o_1.cell 1 rfl
 have z_o_0_1 := R_o_1.frozen 0
 have z_o_1_1 := R_o_1.frozen 1
 have l_o_1 := R_o_1.lt
 have HB1 : Below w.heap.size w w1 := by (repeat' (first | (with_reducible first | exact Below.refl _ _ | assumption | exact Bw.out (by assumption) | refine bw_alloc ?_ _ | refine bw_step ?_ (by assumption) | refine Below.alloc ?_ ?_ _ | refine Below.drew ?_ | refine below_drewN ?_ _ | refine Below.setCell ?_ ?_ _ | refine below_step ?_ (by assumption) ?_ | exact Nat.le_refl _) | omega | (simp; omega) | (simp; done)))
 go_wp2_with fail
 refine (truth_any B _).mono ?_
 rintro e w2 ⟨rfl, hb2⟩
 have R_o_2 : Row w2 (w.heap.size + 1 + 1) [.int .i64 (0), .int .i64 (0)] := by (repeat' (first | (with_reducible assumption) | (with_reducible refine Row.new' _ _ _ (by first | rfl | (simp; done) | omega)) | (with_reducible first | refine Row.alloc ?_ _ | refine Row.drew ?_ | refine Row.step ?_ (by assumption) | refine Row.drewN ?_ _) | (with_reducible refine Row.set2' ?_ _ _; first | exact ⟨_, _, by assumption⟩ | exact ⟨_, _, Row.alloc (by assumption) _⟩) | (with_reducible refine Row.other ?_ (by first | omega | (simp; omega)) _)))
 have c_o_0_2 := R_o_2.cell 0 rfl
 have c_o_1_2 := R_o_2.cell 1 rfl
 have z_o_0_2 := R_o_2.frozen 0
 have z_o_1_2 := R_o_2.frozen 1
 have l_o_2 := R_o_2.lt
 have HB2 : Below w.heap.size w w2 := by (repeat' (first | (with_reducible first | exact Below.refl _ _ | assumption | exact Bw.out (by assumption) | refine bw_alloc ?_ _ | refine bw_step ?_ (by assumption) | refine Below.alloc ?_ ?_ _ | refine Below.drew ?_ | refine below_drewN ?_ _ | refine Below.setCell ?_ ?_ _ | refine below_step ?_ (by assumption) ?_ | exact Nat.le_refl _) | omega | (simp; omega) | (simp; done)))
 clear R_o_1 c_o_0_1 c_o_1_1 z_o_0_1 z_o_1_1 hb1 HB1
 go_wp2_with fail
 have RP := R_o_2.set2 (.int .i64 (trI B)) (.int .i64 1)
 have q0 := RP.cell 0 rfl
 have q1 := RP.cell 1 rfl
 refine bodyPost_ret (v := .agg #[.int .i64 (trI B), .int .i64 1]) (by simp [results, Try.results124, go_sem, q0, q1]) rfl ⟨rfl, by (repeat' (first | (with_reducible first | exact Below.refl _ _ | assumption | exact Bw.out (by assumption) | refine bw_alloc ?_ _ | refine bw_step ?_ (by assumption) | refine Below.alloc ?_ ?_ _ | refine Below.drew ?_ | refine below_drewN ?_ _ | refine Below.setCell ?_ ?_ _ | refine below_step ?_ (by assumption) ?_ | exact Nat.le_refl _) | omega | (simp; omega) | (simp; done)))⟩
set_option maxHeartbeats 1600000 in
theorem And_op (a b c d : Int) (w : World) :
  Calls Try.prog 125 #[.agg #[.int .i64 a, .int .i64 b], .agg #[.int .i64 c, .int .i64 d]] w fun e w' => e = vE (ap2 13 a b c d) ∧ Below w.heap.size w w' := by
 by_cases ha : a = 1
 ·
  subst ha
  by_cases hc : c = 1
  ·
   subst hc
   rw [show ap2 13 1 b 1 d = (trI true, 1, 0) from rfl, vE_ok rfl]
   go_enter Try.func125, Try.ntmps125
   go_wp2_with fail
   refine (truth_any true _).mono ?_
   rintro e w1 ⟨rfl, hb1⟩
   have R_o_1 : Row w1 (w.heap.size + 1 + 1) [.int .i64 (0), .int .i64 (0)] := by (repeat' (first | (with_reducible assumption) | (with_reducible refine Row.new' _ _ _ (by first | rfl | (simp; done) | omega)) | (with_reducible first | refine Row.alloc ?_ _ | refine Row.drew ?_ | refine Row.step ?_ (by assumption) | refine Row.drewN ?_ _) | (with_reducible refine Row.set2' ?_ _ _; first | exact ⟨_, _, by assumption⟩ | exact ⟨_, _, Row.alloc (by assumption) _⟩) | (with_reducible refine Row.other ?_ (by first | omega | (simp; omega)) _)))
   have c_o_0_1 := R_o_1.cell 0 rfl
   have c_o_1_1 := R_o_1.cell 1 rfl
   have z_o_0_1 := R_o_1.frozen 0
   have z_o_1_1 := R_o_1.frozen 1
   have l_o_1 := R_o_1.lt
   have HB1 : Below w.heap.size w w1 := by (repeat' (first | (with_reducible first | exact Below.refl _ _ | assumption | exact Bw.out (by assumption) | refine bw_alloc ?_ _ | refine bw_step ?_ (by assumption) | refine Below.alloc ?_ ?_ _ | refine Below.drew ?_ | refine below_drewN ?_ _ | refine Below.setCell ?_ ?_ _ | refine below_step ?_ (by assumption) ?_ | exact Nat.le_refl _) | omega | (simp; omega) | (simp; done)))
   go_wp2_with fail
   have RP := R_o_1.set2 (.int .i64 (trI true)) (.int .i64 1)
   have q0 := RP.cell 0 rfl
   have q1 := RP.cell 1 rfl
   refine bodyPost_ret (v := .agg #[.int .i64 (trI true), .int .i64 1]) (by simp [results, Try.results125, go_sem, q0, q1]) rfl ⟨rfl, by (repeat' (first | (with_reducible first | exact Below.refl _ _ | assumption | exact Bw.out (by assumption) | refine bw_alloc ?_ _ | refine bw_step ?_ (by assumption) | refine Below.alloc ?_ ?_ _ | refine Below.drew ?_ | refine below_drewN ?_ _ | refine Below.setCell ?_ ?_ _ | refine below_step ?_ (by assumption) ?_ | exact Nat.le_refl _) | omega | (simp; omega) | (simp; done)))⟩
  ·
   have hc' : (c == 1) = false := by simpa using hc
   rw [show ap2 13 1 b c d = (trI false, 1, 0) by unfold ap2; simp [hc], vE_ok rfl]
   clear hc
   go_enter Try.func125, Try.ntmps125
   go_wp2_with fail
   refine (truth_any false _).mono ?_
   rintro e w1 ⟨rfl, hb1⟩
   have R_o_1 : Row w1 (w.heap.size + 1 + 1) [.int .i64 (0), .int .i64 (0)] := by (repeat' (first | (with_reducible assumption) | (with_reducible refine Row.new' _ _ _ (by first | rfl | (simp; done) | omega)) | (with_reducible first | refine Row.alloc ?_ _ | refine Row.drew ?_ | refine Row.step ?_ (by assumption) | refine Row.drewN ?_ _) | (with_reducible refine Row.set2' ?_ _ _; first | exact ⟨_, _, by assumption⟩ | exact ⟨_, _, Row.alloc (by assumption) _⟩) | (with_reducible refine Row.other ?_ (by first | omega | (simp; omega)) _)))
   have c_o_0_1 := R_o_1.cell 0 rfl
   have c_o_1_1 := R_o_1.cell 1 rfl
   have z_o_0_1 := R_o_1.frozen 0
   have z_o_1_1 := R_o_1.frozen 1
   have l_o_1 := R_o_1.lt
   have HB1 : Below w.heap.size w w1 := by (repeat' (first | (with_reducible first | exact Below.refl _ _ | assumption | exact Bw.out (by assumption) | refine bw_alloc ?_ _ | refine bw_step ?_ (by assumption) | refine Below.alloc ?_ ?_ _ | refine Below.drew ?_ | refine below_drewN ?_ _ | refine Below.setCell ?_ ?_ _ | refine below_step ?_ (by assumption) ?_ | exact Nat.le_refl _) | omega | (simp; omega) | (simp; done)))
   go_wp2_with fail
   have RP := R_o_1.set2 (.int .i64 (trI false)) (.int .i64 1)
   have q0 := RP.cell 0 rfl
   have q1 := RP.cell 1 rfl
   refine bodyPost_ret (v := .agg #[.int .i64 (trI false), .int .i64 1]) (by simp [results, Try.results125, go_sem, q0, q1]) rfl ⟨rfl, by (repeat' (first | (with_reducible first | exact Below.refl _ _ | assumption | exact Bw.out (by assumption) | refine bw_alloc ?_ _ | refine bw_step ?_ (by assumption) | refine Below.alloc ?_ ?_ _ | refine Below.drew ?_ | refine below_drewN ?_ _ | refine Below.setCell ?_ ?_ _ | refine below_step ?_ (by assumption) ?_ | exact Nat.le_refl _) | omega | (simp; omega) | (simp; done)))⟩
 ·
  have ha' : (a == 1) = false := by simpa using ha
  by_cases hc : c = 1
  ·
   subst hc
   rw [show ap2 13 a b 1 d = (trI false, 1, 0) by unfold ap2; simp [ha], vE_ok rfl]
   clear ha
   go_enter Try.func125, Try.ntmps125
   go_wp2_with fail
   refine (truth_any false _).mono ?_
   rintro e w1 ⟨rfl, hb1⟩
   have R_o_1 : Row w1 (w.heap.size + 1 + 1) [.int .i64 (0), .int .i64 (0)] := by (repeat' (first | (with_reducible assumption) | (with_reducible refine Row.new' _ _ _ (by first | rfl | (simp; done) | omega)) | (with_reducible first | refine Row.alloc ?_ _ | refine Row.drew ?_ | refine Row.step ?_ (by assumption) | refine Row.drewN ?_ _) | (with_reducible refine Row.set2' ?_ _ _; first | exact ⟨_, _, by assumption⟩ | exact ⟨_, _, Row.alloc (by assumption) _⟩) | (with_reducible refine Row.other ?_ (by first | omega | (simp; omega)) _)))
   have c_o_0_1 := R_o_1.cell 0 rfl
   have c_o_1_1 := R_o_1.cell 1 rfl
   have z_o_0_1 := R_o_1.frozen 0
   have z_o_1_1 := R_o_1.frozen 1
   have l_o_1 := R_o_1.lt
   have HB1 : Below w.heap.size w w1 := by (repeat' (first | (with_reducible first | exact Below.refl _ _ | assumption | exact Bw.out (by assumption) | refine bw_alloc ?_ _ | refine bw_step ?_ (by assumption) | refine Below.alloc ?_ ?_ _ | refine Below.drew ?_ | refine below_drewN ?_ _ | refine Below.setCell ?_ ?_ _ | refine below_step ?_ (by assumption) ?_ | exact Nat.le_refl _) | omega | (simp; omega) | (simp; done)))
   go_wp2_with fail
   have RP := R_o_1.set2 (.int .i64 (trI false)) (.int .i64 1)
   have q0 := RP.cell 0 rfl
   have q1 := RP.cell 1 rfl
   refine bodyPost_ret (v := .agg #[.int .i64 (trI false), .int .i64 1]) (by simp [results, Try.results125, go_sem, q0, q1]) rfl ⟨rfl, by (repeat' (first | (with_reducible first | exact Below.refl _ _ | assumption | exact Bw.out (by assumption) | refine bw_alloc ?_ _ | refine bw_step ?_ (by assumption) | refine Below.alloc ?_ ?_ _ | refine Below.drew ?_ | refine below_drewN ?_ _ | refine Below.setCell ?_ ?_ _ | refine below_step ?_ (by assumption) ?_ | exact Nat.le_refl _) | omega | (simp; omega) | (simp; done)))⟩
  ·
   have hc' : (c == 1) = false := by simpa using hc
   rw [show ap2 13 a b c d = (trI false, 1, 0) by unfold ap2; simp [ha, hc], vE_ok rfl]
   clear ha hc
   go_enter Try.func125, Try.ntmps125
   go_wp2_with fail
   refine (truth_any false _).mono ?_
   rintro e w1 ⟨rfl, hb1⟩
   have R_o_1 : Row w1 (w.heap.size + 1 + 1) [.int .i64 (0), .int .i64 (0)] := by (repeat' (first | (with_reducible assumption) | (with_reducible refine Row.new' _ _ _ (by first | rfl | (simp; done) | omega)) | (with_reducible first | refine Row.alloc ?_ _ | refine Row.drew ?_ | refine Row.step ?_ (by assumption) | refine Row.drewN ?_ _) | (with_reducible refine Row.set2' ?_ _ _; first | exact ⟨_, _, by assumption⟩ | exact ⟨_, _, Row.alloc (by assumption) _⟩) | (with_reducible refine Row.other ?_ (by first | omega | (simp; omega)) _)))
   have c_o_0_1 := R_o_1.cell 0 rfl
   have c_o_1_1 := R_o_1.cell 1 rfl
   have z_o_0_1 := R_o_1.frozen 0
   have z_o_1_1 := R_o_1.frozen 1
   have l_o_1 := R_o_1.lt
   have HB1 : Below w.heap.size w w1 := by (repeat' (first | (with_reducible first | exact Below.refl _ _ | assumption | exact Bw.out (by assumption) | refine bw_alloc ?_ _ | refine bw_step ?_ (by assumption) | refine Below.alloc ?_ ?_ _ | refine Below.drew ?_ | refine below_drewN ?_ _ | refine Below.setCell ?_ ?_ _ | refine below_step ?_ (by assumption) ?_ | exact Nat.le_refl _) | omega | (simp; omega) | (simp; done)))
   go_wp2_with fail
   have RP := R_o_1.set2 (.int .i64 (trI false)) (.int .i64 1)
   have q0 := RP.cell 0 rfl
   have q1 := RP.cell 1 rfl
   refine bodyPost_ret (v := .agg #[.int .i64 (trI false), .int .i64 1]) (by simp [results, Try.results125, go_sem, q0, q1]) rfl ⟨rfl, by (repeat' (first | (with_reducible first | exact Below.refl _ _ | assumption | exact Bw.out (by assumption) | refine bw_alloc ?_ _ | refine bw_step ?_ (by assumption) | refine Below.alloc ?_ ?_ _ | refine Below.drew ?_ | refine below_drewN ?_ _ | refine Below.setCell ?_ ?_ _ | refine below_step ?_ (by assumption) ?_ | exact Nat.le_refl _) | omega | (simp; omega) | (simp; done)))⟩
set_option maxHeartbeats 1600000 in
theorem Or_op (a b c d : Int) (w : World) :
  Calls Try.prog 126 #[.agg #[.int .i64 a, .int .i64 b], .agg #[.int .i64 c, .int .i64 d]] w fun e w' => e = vE (ap2 14 a b c d) ∧ Below w.heap.size w w' := by
 by_cases ha : a = 1
 ·
  subst ha
  by_cases hc : c = 1
  ·
   subst hc
   rw [show ap2 14 1 b 1 d = (trI true, 1, 0) from rfl, vE_ok rfl]
   go_enter Try.func126, Try.ntmps126
   go_wp2_with fail
   refine (truth_any true _).mono ?_
   rintro e w1 ⟨rfl, hb1⟩
   have R_o_1 : Row w1 (w.heap.size + 1 + 1) [.int .i64 (0), .int .i64 (0)] := by (repeat' (first | (with_reducible assumption) | (with_reducible refine Row.new' _ _ _ (by first | rfl | (simp; done) | omega)) | (with_reducible first | refine Row.alloc ?_ _ | refine Row.drew ?_ | refine Row.step ?_ (by assumption) | refine Row.drewN ?_ _) | (with_reducible refine Row.set2' ?_ _ _; first | exact ⟨_, _, by assumption⟩ | exact ⟨_, _, Row.alloc (by assumption) _⟩) | (with_reducible refine Row.other ?_ (by first | omega | (simp; omega)) _)))
   have c_o_0_1 := R_o_1.cell 0 rfl
   have c_o_1_1 := R_o_1.cell 1 rfl
   have z_o_0_1 := R_o_1.frozen 0
   have z_o_1_1 := R_o_1.frozen 1
   have l_o_1 := R_o_1.lt
   have HB1 : Below w.heap.size w w1 := by (repeat' (first | (with_reducible first | exact Below.refl _ _ | assumption | exact Bw.out (by assumption) | refine bw_alloc ?_ _ | refine bw_step ?_ (by assumption) | refine Below.alloc ?_ ?_ _ | refine Below.drew ?_ | refine below_drewN ?_ _ | refine Below.setCell ?_ ?_ _ | refine below_step ?_ (by assumption) ?_ | exact Nat.le_refl _) | omega | (simp; omega) | (simp; done)))
   go_wp2_with fail
   have RP := R_o_1.set2 (.int .i64 (trI true)) (.int .i64 1)
   have q0 := RP.cell 0 rfl
   have q1 := RP.cell 1 rfl
   refine bodyPost_ret (v := .agg #[.int .i64 (trI true), .int .i64 1]) (by simp [results, Try.results126, go_sem, q0, q1]) rfl ⟨rfl, by (repeat' (first | (with_reducible first | exact Below.refl _ _ | assumption | exact Bw.out (by assumption) | refine bw_alloc ?_ _ | refine bw_step ?_ (by assumption) | refine Below.alloc ?_ ?_ _ | refine Below.drew ?_ | refine below_drewN ?_ _ | refine Below.setCell ?_ ?_ _ | refine below_step ?_ (by assumption) ?_ | exact Nat.le_refl _) | omega | (simp; omega) | (simp; done)))⟩
  ·
   have hc' : (c == 1) = false := by simpa using hc
   rw [show ap2 14 1 b c d = (trI true, 1, 0) by unfold ap2; simp [hc], vE_ok rfl]
   clear hc
   go_enter Try.func126, Try.ntmps126
   go_wp2_with fail
   refine (truth_any true _).mono ?_
   rintro e w1 ⟨rfl, hb1⟩
   have R_o_1 : Row w1 (w.heap.size + 1 + 1) [.int .i64 (0), .int .i64 (0)] := by (repeat' (first | (with_reducible assumption) | (with_reducible refine Row.new' _ _ _ (by first | rfl | (simp; done) | omega)) | (with_reducible first | refine Row.alloc ?_ _ | refine Row.drew ?_ | refine Row.step ?_ (by assumption) | refine Row.drewN ?_ _) | (with_reducible refine Row.set2' ?_ _ _; first | exact ⟨_, _, by assumption⟩ | exact ⟨_, _, Row.alloc (by assumption) _⟩) | (with_reducible refine Row.other ?_ (by first | omega | (simp; omega)) _)))
   have c_o_0_1 := R_o_1.cell 0 rfl
   have c_o_1_1 := R_o_1.cell 1 rfl
   have z_o_0_1 := R_o_1.frozen 0
   have z_o_1_1 := R_o_1.frozen 1
   have l_o_1 := R_o_1.lt
   have HB1 : Below w.heap.size w w1 := by (repeat' (first | (with_reducible first | exact Below.refl _ _ | assumption | exact Bw.out (by assumption) | refine bw_alloc ?_ _ | refine bw_step ?_ (by assumption) | refine Below.alloc ?_ ?_ _ | refine Below.drew ?_ | refine below_drewN ?_ _ | refine Below.setCell ?_ ?_ _ | refine below_step ?_ (by assumption) ?_ | exact Nat.le_refl _) | omega | (simp; omega) | (simp; done)))
   go_wp2_with fail
   have RP := R_o_1.set2 (.int .i64 (trI true)) (.int .i64 1)
   have q0 := RP.cell 0 rfl
   have q1 := RP.cell 1 rfl
   refine bodyPost_ret (v := .agg #[.int .i64 (trI true), .int .i64 1]) (by simp [results, Try.results126, go_sem, q0, q1]) rfl ⟨rfl, by (repeat' (first | (with_reducible first | exact Below.refl _ _ | assumption | exact Bw.out (by assumption) | refine bw_alloc ?_ _ | refine bw_step ?_ (by assumption) | refine Below.alloc ?_ ?_ _ | refine Below.drew ?_ | refine below_drewN ?_ _ | refine Below.setCell ?_ ?_ _ | refine below_step ?_ (by assumption) ?_ | exact Nat.le_refl _) | omega | (simp; omega) | (simp; done)))⟩
 ·
  have ha' : (a == 1) = false := by simpa using ha
  by_cases hc : c = 1
  ·
   subst hc
   rw [show ap2 14 a b 1 d = (trI true, 1, 0) by unfold ap2; simp [ha], vE_ok rfl]
   clear ha
   go_enter Try.func126, Try.ntmps126
   go_wp2_with fail
   refine (truth_any true _).mono ?_
   rintro e w1 ⟨rfl, hb1⟩
   have R_o_1 : Row w1 (w.heap.size + 1 + 1) [.int .i64 (0), .int .i64 (0)] := by (repeat' (first | (with_reducible assumption) | (with_reducible refine Row.new' _ _ _ (by first | rfl | (simp; done) | omega)) | (with_reducible first | refine Row.alloc ?_ _ | refine Row.drew ?_ | refine Row.step ?_ (by assumption) | refine Row.drewN ?_ _) | (with_reducible refine Row.set2' ?_ _ _; first | exact ⟨_, _, by assumption⟩ | exact ⟨_, _, Row.alloc (by assumption) _⟩) | (with_reducible refine Row.other ?_ (by first | omega | (simp; omega)) _)))
   have c_o_0_1 := R_o_1.cell 0 rfl
   have c_o_1_1 := R_o_1.cell 1 rfl
   have z_o_0_1 := R_o_1.frozen 0
   have z_o_1_1 := R_o_1.frozen 1
   have l_o_1 := R_o_1.lt
   have HB1 : Below w.heap.size w w1 := by (repeat' (first | (with_reducible first | exact Below.refl _ _ | assumption | exact Bw.out (by assumption) | refine bw_alloc ?_ _ | refine bw_step ?_ (by assumption) | refine Below.alloc ?_ ?_ _ | refine Below.drew ?_ | refine below_drewN ?_ _ | refine Below.setCell ?_ ?_ _ | refine below_step ?_ (by assumption) ?_ | exact Nat.le_refl _) | omega | (simp; omega) | (simp; done)))
   go_wp2_with fail
   have RP := R_o_1.set2 (.int .i64 (trI true)) (.int .i64 1)
   have q0 := RP.cell 0 rfl
   have q1 := RP.cell 1 rfl
   refine bodyPost_ret (v := .agg #[.int .i64 (trI true), .int .i64 1]) (by simp [results, Try.results126, go_sem, q0, q1]) rfl ⟨rfl, by (repeat' (first | (with_reducible first | exact Below.refl _ _ | assumption | exact Bw.out (by assumption) | refine bw_alloc ?_ _ | refine bw_step ?_ (by assumption) | refine Below.alloc ?_ ?_ _ | refine Below.drew ?_ | refine below_drewN ?_ _ | refine Below.setCell ?_ ?_ _ | refine below_step ?_ (by assumption) ?_ | exact Nat.le_refl _) | omega | (simp; omega) | (simp; done)))⟩
  ·
   have hc' : (c == 1) = false := by simpa using hc
   rw [show ap2 14 a b c d = (trI false, 1, 0) by unfold ap2; simp [ha, hc], vE_ok rfl]
   clear ha hc
   go_enter Try.func126, Try.ntmps126
   go_wp2_with fail
   refine (truth_any false _).mono ?_
   rintro e w1 ⟨rfl, hb1⟩
   have R_o_1 : Row w1 (w.heap.size + 1 + 1) [.int .i64 (0), .int .i64 (0)] := by (repeat' (first | (with_reducible assumption) | (with_reducible refine Row.new' _ _ _ (by first | rfl | (simp; done) | omega)) | (with_reducible first | refine Row.alloc ?_ _ | refine Row.drew ?_ | refine Row.step ?_ (by assumption) | refine Row.drewN ?_ _) | (with_reducible refine Row.set2' ?_ _ _; first | exact ⟨_, _, by assumption⟩ | exact ⟨_, _, Row.alloc (by assumption) _⟩) | (with_reducible refine Row.other ?_ (by first | omega | (simp; omega)) _)))
   have c_o_0_1 := R_o_1.cell 0 rfl
   have c_o_1_1 := R_o_1.cell 1 rfl
   have z_o_0_1 := R_o_1.frozen 0
   have z_o_1_1 := R_o_1.frozen 1
   have l_o_1 := R_o_1.lt
   have HB1 : Below w.heap.size w w1 := by (repeat' (first | (with_reducible first | exact Below.refl _ _ | assumption | exact Bw.out (by assumption) | refine bw_alloc ?_ _ | refine bw_step ?_ (by assumption) | refine Below.alloc ?_ ?_ _ | refine Below.drew ?_ | refine below_drewN ?_ _ | refine Below.setCell ?_ ?_ _ | refine below_step ?_ (by assumption) ?_ | exact Nat.le_refl _) | omega | (simp; omega) | (simp; done)))
   go_wp2_with fail
   have RP := R_o_1.set2 (.int .i64 (trI false)) (.int .i64 1)
   have q0 := RP.cell 0 rfl
   have q1 := RP.cell 1 rfl
   refine bodyPost_ret (v := .agg #[.int .i64 (trI false), .int .i64 1]) (by simp [results, Try.results126, go_sem, q0, q1]) rfl ⟨rfl, by (repeat' (first | (with_reducible first | exact Below.refl _ _ | assumption | exact Bw.out (by assumption) | refine bw_alloc ?_ _ | refine bw_step ?_ (by assumption) | refine Below.alloc ?_ ?_ _ | refine Below.drew ?_ | refine below_drewN ?_ _ | refine Below.setCell ?_ ?_ _ | refine below_step ?_ (by assumption) ?_ | exact Nat.le_refl _) | omega | (simp; omega) | (simp; done)))⟩
set_option maxHeartbeats 800000 in
theorem better_any (s : Int) (w : World) :
  Calls Try.prog 120 #[.int .i64 s] w fun e w' => e = .returned (.func (.func 133) #[] #[.pointer (some ⟨w.heap.size, 0, none⟩)]) ∧ w' = w.alloc (.cells #[.int .i64 s] 3) := by
 go_enter Try.func120, Try.ntmps120
 go_wp2_with fail
 go_ret
 exact ⟨rfl, rfl⟩
end Go.Proofs.Ytcmodmchnokmgaa
