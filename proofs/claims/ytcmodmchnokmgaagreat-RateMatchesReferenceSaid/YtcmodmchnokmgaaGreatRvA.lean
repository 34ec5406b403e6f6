/-
 The reference of layer 11: in, Ask, Vars, vars, truth, Apply.
-/
import Derived.Test.YtcmodmchnokmgaaGreatEvT
import Derived.Test.YtcmodmchnokmgaaGreatRatP
namespace Go.Proofs.YtcmodmchnokmgaaGreat
set_option linter.unusedSimpArgs false
set_option linter.unusedVariables false
open Go.RowKit
set_option maxHeartbeats 800000 in
theorem R_in11_any (n lo hi : Int) (w : World) :
  Calls Tryz.prog 34 #[.int .i64 n, .int .i64 lo, .int .i64 hi] w fun e w' => e = .returned (.bool (inE n lo hi)) ∧ Below w.heap.size w w' := by
 by_cases h : lo ≤ n
 ·
  have e : inE n lo hi = decide (n ≤ hi) := by unfold inE; simp [h]
  rw [e]
  go_enter Tryz.func34, Tryz.ntmps34
  go_wp2_with fail
  go_ret
  exact ⟨rfl, Below.refl _ _⟩
 ·
  have e : inE n lo hi = false := by unfold inE; simp [h]
  rw [e]
  go_enter Tryz.func34, Tryz.ntmps34
  go_wp2_with fail
  go_ret
  exact ⟨rfl, Below.refl _ _⟩
theorem R_in11_p (n lo hi : Int) (p : Bool) (hp : inE n lo hi = p) (w : World) :
  Calls Tryz.prog 34 #[.int .i64 n, .int .i64 lo, .int .i64 hi] w fun e w' => e = .returned (.bool p) ∧ Below w.heap.size w w' := by
 subst hp; exact R_in11_any n lo hi w
set_option maxRecDepth 100000 in
set_option maxHeartbeats 1600000 in
theorem R_ask_any (k fr un ps : Int) (w : World) :
  Calls Tryz.prog 33 #[.agg #[.int .i64 k, .int .i64 fr, .int .i64 un, .int .i64 ps]] w fun e w' => e = .returned (.bool (askB ⟨k, fr, un, ps⟩)) ∧ Below w.heap.size w w' := by
 by_cases h1 : 0 ≤ fr
 ·
  by_cases h2 : fr < un
  ·
   by_cases h3 : un ≤ 366
   ·
    by_cases h4 : un - fr ≤ 60
    ·
     obtain ⟨p1, hp1⟩ : ∃ p, inE k 1 20 = p := ⟨_, rfl⟩
     obtain ⟨p2, hp2⟩ : ∃ p, inE ps 1 8 = p := ⟨_, rfl⟩
     have e : askB ⟨k, fr, un, ps⟩ = (p1 && p2) := by unfold askB; simp [h1, h2, h3, h4, hp1, hp2]
     rw [e]
     have HP1 := Lib.hid hp1
     have HP2 := Lib.hid hp2
     clear hp1 hp2 e
     go_enter Tryz.func33, Tryz.ntmps33
     go_wp2_with fail
     refine (R_in11_p k 1 20 p1 HP1.out _).mono ?_
     rintro e w1 ⟨rfl, hb1⟩
     have R_a_1 : Row w1 (w.heap.size) [.int .i64 (k), .int .i64 (fr), .int .i64 (un), .int .i64 (ps)] := by (repeat' (first | (with_reducible assumption) | (with_reducible refine Row.new' _ _ _ (by first | rfl | (simp; done) | omega)) | (with_reducible first | refine Row.alloc ?_ _ | refine Row.drew ?_ | refine Row.step ?_ (by assumption) | refine Row.drewN ?_ _) | (with_reducible refine Row.set2' ?_ _ _; first | exact ⟨_, _, by assumption⟩ | exact ⟨_, _, Row.alloc (by assumption) _⟩) | (with_reducible refine Row.other ?_ (by first | omega | (simp; omega)) _)))
     have c_a_0_1 := R_a_1.cell 0 rfl
     have c_a_1_1 := R_a_1.cell 1 rfl
     have c_a_2_1 := R_a_1.cell 2 rfl
     have c_a_3_1 := R_a_1.cell 3 rfl
     have l_a_1 := R_a_1.lt
     have HB1 : Below w.heap.size w w1 := by (repeat' (first | (with_reducible first | exact Below.refl _ _ | assumption | exact Bw.out (by assumption) | refine bw_alloc ?_ _ | refine bw_step ?_ (by assumption) | refine Below.alloc ?_ ?_ _ | refine Below.drew ?_ | refine below_drewN ?_ _ | refine Below.setCell ?_ ?_ _ | refine below_step ?_ (by assumption) ?_ | exact Nat.le_refl _) | omega | (simp; omega) | (simp; done)))
     cases p1 with
     | false =>
      go_wp2_with fail
      go_ret
      refine ⟨(by first | rfl | exact ret_bool (by first | rfl | (simp; done) | (simp; omega))), ?_⟩
      (repeat' (first | (with_reducible first | exact Below.refl _ _ | assumption | exact Bw.out (by assumption) | refine bw_alloc ?_ _ | refine bw_step ?_ (by assumption) | refine Below.alloc ?_ ?_ _ | refine Below.drew ?_ | refine below_drewN ?_ _ | refine Below.setCell ?_ ?_ _ | refine below_step ?_ (by assumption) ?_ | exact Nat.le_refl _) | omega | (simp; omega) | (simp; done)))
     | true =>
      go_wp2_with fail
      refine (R_in11_p ps 1 8 p2 HP2.out _).mono ?_
      rintro e w2 ⟨rfl, hb2⟩
      have R_a_2 : Row w2 (w.heap.size) [.int .i64 (k), .int .i64 (fr), .int .i64 (un), .int .i64 (ps)] := by (repeat' (first | (with_reducible assumption) | (with_reducible refine Row.new' _ _ _ (by first | rfl | (simp; done) | omega)) | (with_reducible first | refine Row.alloc ?_ _ | refine Row.drew ?_ | refine Row.step ?_ (by assumption) | refine Row.drewN ?_ _) | (with_reducible refine Row.set2' ?_ _ _; first | exact ⟨_, _, by assumption⟩ | exact ⟨_, _, Row.alloc (by assumption) _⟩) | (with_reducible refine Row.other ?_ (by first | omega | (simp; omega)) _)))
      have c_a_0_2 := R_a_2.cell 0 rfl
      have c_a_1_2 := R_a_2.cell 1 rfl
      have c_a_2_2 := R_a_2.cell 2 rfl
      have c_a_3_2 := R_a_2.cell 3 rfl
      have l_a_2 := R_a_2.lt
      have HB2 : Below w.heap.size w w2 := by (repeat' (first | (with_reducible first | exact Below.refl _ _ | assumption | exact Bw.out (by assumption) | refine bw_alloc ?_ _ | refine bw_step ?_ (by assumption) | refine Below.alloc ?_ ?_ _ | refine Below.drew ?_ | refine below_drewN ?_ _ | refine Below.setCell ?_ ?_ _ | refine below_step ?_ (by assumption) ?_ | exact Nat.le_refl _) | omega | (simp; omega) | (simp; done)))
      clear R_a_1 c_a_0_1 c_a_1_1 c_a_2_1 c_a_3_1 hb1 HB1
      go_wp2_with fail
      go_ret
      refine ⟨(by first | rfl | exact ret_bool (by first | rfl | (simp; done) | (simp; omega))), ?_⟩
      (repeat' (first | (with_reducible first | exact Below.refl _ _ | assumption | exact Bw.out (by assumption) | refine bw_alloc ?_ _ | refine bw_step ?_ (by assumption) | refine Below.alloc ?_ ?_ _ | refine Below.drew ?_ | refine below_drewN ?_ _ | refine Below.setCell ?_ ?_ _ | refine below_step ?_ (by assumption) ?_ | exact Nat.le_refl _) | omega | (simp; omega) | (simp; done)))
    ·
     have e : askB ⟨k, fr, un, ps⟩ = false := by unfold askB; simp [h4]
     rw [e]
     have h4' : 60 < un - fr := by omega
     clear h4
     go_enter Tryz.func33, Tryz.ntmps33
     go_wp2_with fail
     go_ret
     refine ⟨(by first | rfl | exact ret_bool (by first | rfl | (simp; done) | (simp; omega))), ?_⟩
     (repeat' (first | (with_reducible first | exact Below.refl _ _ | assumption | exact Bw.out (by assumption) | refine bw_alloc ?_ _ | refine bw_step ?_ (by assumption) | refine Below.alloc ?_ ?_ _ | refine Below.drew ?_ | refine below_drewN ?_ _ | refine Below.setCell ?_ ?_ _ | refine below_step ?_ (by assumption) ?_ | exact Nat.le_refl _) | omega | (simp; omega) | (simp; done)))
   ·
    have e : askB ⟨k, fr, un, ps⟩ = false := by unfold askB; simp [h3]
    rw [e]
    go_enter Tryz.func33, Tryz.ntmps33
    go_wp2_with fail
    go_ret
    refine ⟨(by first | rfl | exact ret_bool (by first | rfl | (simp; done) | (simp; omega))), ?_⟩
    (repeat' (first | (with_reducible first | exact Below.refl _ _ | assumption | exact Bw.out (by assumption) | refine bw_alloc ?_ _ | refine bw_step ?_ (by assumption) | refine Below.alloc ?_ ?_ _ | refine Below.drew ?_ | refine below_drewN ?_ _ | refine Below.setCell ?_ ?_ _ | refine below_step ?_ (by assumption) ?_ | exact Nat.le_refl _) | omega | (simp; omega) | (simp; done)))
  ·
   have e : askB ⟨k, fr, un, ps⟩ = false := by unfold askB; simp [h2]
   rw [e]
   go_enter Tryz.func33, Tryz.ntmps33
   go_wp2_with fail
   go_ret
   refine ⟨(by first | rfl | exact ret_bool (by first | rfl | (simp; done) | (simp; omega))), ?_⟩
   (repeat' (first | (with_reducible first | exact Below.refl _ _ | assumption | exact Bw.out (by assumption) | refine bw_alloc ?_ _ | refine bw_step ?_ (by assumption) | refine Below.alloc ?_ ?_ _ | refine Below.drew ?_ | refine below_drewN ?_ _ | refine Below.setCell ?_ ?_ _ | refine below_step ?_ (by assumption) ?_ | exact Nat.le_refl _) | omega | (simp; omega) | (simp; done)))
 ·
  have e : askB ⟨k, fr, un, ps⟩ = false := by unfold askB; simp [h1]
  rw [e]
  go_enter Tryz.func33, Tryz.ntmps33
  go_wp2_with fail
  go_ret
  refine ⟨(by first | rfl | exact ret_bool (by first | rfl | (simp; done) | (simp; omega))), ?_⟩
  (repeat' (first | (with_reducible first | exact Below.refl _ _ | assumption | exact Bw.out (by assumption) | refine bw_alloc ?_ _ | refine bw_step ?_ (by assumption) | refine Below.alloc ?_ ?_ _ | refine Below.drew ?_ | refine below_drewN ?_ _ | refine Below.setCell ?_ ?_ _ | refine below_step ?_ (by assumption) ?_ | exact Nat.le_refl _) | omega | (simp; omega) | (simp; done)))
theorem R_ask_p (k fr un ps : Int) (p : Bool) (hp : askB ⟨k, fr, un, ps⟩ = p) (w : World) :
  Calls Tryz.prog 33 #[.agg #[.int .i64 k, .int .i64 fr, .int .i64 un, .int .i64 ps]] w fun e w' => e = .returned (.bool p) ∧ Below w.heap.size w w' := by
 subst hp; exact R_ask_any k fr un ps w
set_option maxRecDepth 100000 in
set_option maxHeartbeats 1600000 in
theorem R_vars_any (k fr un ps nt : Int) (w : World) (h : askB ⟨k, fr, un, ps⟩ = true) (hn : fr ≤ nt ∧ nt < un) :
  Calls Tryz.prog 36 #[.agg #[.int .i64 k, .int .i64 fr, .int .i64 un, .int .i64 ps], .int .i64 nt] w fun e w' => e = .returned (.agg #[.int .i64 (un - fr), .int .i64 ps, .int .i64 (nt - fr), .int .i64 (dayI nt)]) ∧ Below w.heap.size w w' := by
 obtain ⟨⟨h1, h2, h3, h4⟩, _, _⟩ := askB_in h
 obtain ⟨n1, n2⟩ := hn
 simp only at h1 h2 h3 h4
 clear h
 go_enter Tryz.func36, Tryz.ntmps36
 go_wp2_with fail
 refine (R_weekday_any nt _).mono ?_
 rintro e w1 ⟨rfl, hb1⟩
 have R_a_1 : Row w1 (w.heap.size) [.int .i64 (k), .int .i64 (fr), .int .i64 (un), .int .i64 (ps)] := by (repeat' (first | (with_reducible assumption) | (with_reducible refine Row.new' _ _ _ (by first | rfl | (simp; done) | omega)) | (with_reducible first | refine Row.alloc ?_ _ | refine Row.drew ?_ | refine Row.step ?_ (by assumption) | refine Row.drewN ?_ _) | (with_reducible refine Row.set2' ?_ _ _; first | exact ⟨_, _, by assumption⟩ | exact ⟨_, _, Row.alloc (by assumption) _⟩) | (with_reducible refine Row.other ?_ (by first | omega | (simp; omega)) _)))
 have c_a_0_1 := R_a_1.cell 0 rfl
 have c_a_1_1 := R_a_1.cell 1 rfl
 have c_a_2_1 := R_a_1.cell 2 rfl
 have c_a_3_1 := R_a_1.cell 3 rfl
 have l_a_1 := R_a_1.lt
 have R_o_1 : Row w1 (w.heap.size + 1) [.int .i64 (0), .int .i64 (0), .int .i64 (0), .int .i64 (0)] := by (repeat' (first | (with_reducible assumption) | (with_reducible refine Row.new' _ _ _ (by first | rfl | (simp; done) | omega)) | (with_reducible first | refine Row.alloc ?_ _ | refine Row.drew ?_ | refine Row.step ?_ (by assumption) | refine Row.drewN ?_ _) | (with_reducible refine Row.set2' ?_ _ _; first | exact ⟨_, _, by assumption⟩ | exact ⟨_, _, Row.alloc (by assumption) _⟩) | (with_reducible refine Row.other ?_ (by first | omega | (simp; omega)) _)))
 have c_o_0_1 := R_o_1.cell 0 rfl
 have c_o_1_1 := R_o_1.cell 1 rfl
 have c_o_2_1 := R_o_1.cell 2 rfl
 have c_o_3_1 := R_o_1.cell 3 rfl
 have z_o_0_1 := R_o_1.frozen 0
 have z_o_1_1 := R_o_1.frozen 1
 have z_o_2_1 := R_o_1.frozen 2
 have z_o_3_1 := R_o_1.frozen 3
 have l_o_1 := R_o_1.lt
 have HB1 : Below w.heap.size w w1 := by (repeat' (first | (with_reducible first | exact Below.refl _ _ | assumption | exact Bw.out (by assumption) | refine bw_alloc ?_ _ | refine bw_step ?_ (by assumption) | refine Below.alloc ?_ ?_ _ | refine Below.drew ?_ | refine below_drewN ?_ _ | refine Below.setCell ?_ ?_ _ | refine below_step ?_ (by assumption) ?_ | exact Nat.le_refl _) | omega | (simp; omega) | (simp; done)))
 go_wp2_with fail
 have hP := puz_all R_o_1 [.int .i64 (un - fr), .int .i64 ps, .int .i64 (nt - fr), .int .i64 (dayI nt)] rfl
 simp only [Go.Proofs.YtcmodmchnokmgaaGreat.puz, Nat.reduceAdd, Nat.zero_add] at hP
 obtain ⟨RP, CP⟩ := hP
 have q0 := RP.cell 0 rfl
 have q1 := RP.cell 1 rfl
 have q2 := RP.cell 2 rfl
 have q3 := RP.cell 3 rfl
 refine bodyPost_ret (v := .agg #[.int .i64 (un - fr), .int .i64 ps, .int .i64 (nt - fr), .int .i64 (dayI nt)]) (by simp [results, Tryz.results36, go_sem, q0, q1, q2, q3]) rfl ⟨rfl, by (repeat' (first | (with_reducible first | exact Below.refl _ _ | assumption | exact Bw.out (by assumption) | refine bw_alloc ?_ _ | refine bw_step ?_ (by assumption) | refine Below.alloc ?_ ?_ _ | refine Below.drew ?_ | refine below_drewN ?_ _ | refine Below.setCell ?_ ?_ _ | refine below_step ?_ (by assumption) ?_ | exact Nat.le_refl _) | omega | (simp; omega) | (simp; done)))⟩
set_option maxRecDepth 100000 in
set_option maxHeartbeats 1600000 in
theorem R_varsB_p (a b c d : Int) (p : Bool) (hp : varsB a b c d = p) (w : World) :
  Calls Tryz.prog 18 #[.agg #[.int .i64 a, .int .i64 b, .int .i64 c, .int .i64 d]] w fun e w' => e = .returned (.bool p) ∧ Below w.heap.size w w' := by
 obtain ⟨p0, hp0⟩ : ∃ p, inE a 1 60 = p := ⟨_, rfl⟩
 obtain ⟨p1, hp1⟩ : ∃ p, inE b 1 8 = p := ⟨_, rfl⟩
 obtain ⟨p2, hp2⟩ : ∃ p, inE c 0 59 = p := ⟨_, rfl⟩
 obtain ⟨p3, hp3⟩ : ∃ p, inE d 0 6 = p := ⟨_, rfl⟩
 have e : p = (p0 && (p1 && (p2 && p3))) := by rw [← hp]; unfold varsB; rw [hp0, hp1, hp2, hp3]
 have H0 := Lib.hid hp0
 have H1 := Lib.hid hp1
 have H2 := Lib.hid hp2
 have H3 := Lib.hid hp3
 subst e
 clear hp hp0 hp1 hp2 hp3
 go_enter Tryz.func18, Tryz.ntmps18
 go_wp2_with fail
 refine (R_in11_p a 1 60 p0 H0.out _).mono ?_
 rintro e w1 ⟨rfl, hb1⟩
 have R_a_1 : Row w1 (w.heap.size) [.int .i64 (a), .int .i64 (b), .int .i64 (c), .int .i64 (d)] := by (repeat' (first | (with_reducible assumption) | (with_reducible refine Row.new' _ _ _ (by first | rfl | (simp; done) | omega)) | (with_reducible first | refine Row.alloc ?_ _ | refine Row.drew ?_ | refine Row.step ?_ (by assumption) | refine Row.drewN ?_ _) | (with_reducible refine Row.set2' ?_ _ _; first | exact ⟨_, _, by assumption⟩ | exact ⟨_, _, Row.alloc (by assumption) _⟩) | (with_reducible refine Row.other ?_ (by first | omega | (simp; omega)) _)))
 have c_a_0_1 := R_a_1.cell 0 rfl
 have c_a_1_1 := R_a_1.cell 1 rfl
 have c_a_2_1 := R_a_1.cell 2 rfl
 have c_a_3_1 := R_a_1.cell 3 rfl
 have l_a_1 := R_a_1.lt
 have HB1 : Below w.heap.size w w1 := by (repeat' (first | (with_reducible first | exact Below.refl _ _ | assumption | exact Bw.out (by assumption) | refine bw_alloc ?_ _ | refine bw_step ?_ (by assumption) | refine Below.alloc ?_ ?_ _ | refine Below.drew ?_ | refine below_drewN ?_ _ | refine Below.setCell ?_ ?_ _ | refine below_step ?_ (by assumption) ?_ | exact Nat.le_refl _) | omega | (simp; omega) | (simp; done)))
 cases p0 with
 | false =>
  go_wp2_with fail
  go_ret
  refine ⟨(by first | rfl | exact ret_bool (by first | rfl | (simp; done) | (simp; omega))), ?_⟩
  (repeat' (first | (with_reducible first | exact Below.refl _ _ | assumption | exact Bw.out (by assumption) | refine bw_alloc ?_ _ | refine bw_step ?_ (by assumption) | refine Below.alloc ?_ ?_ _ | refine Below.drew ?_ | refine below_drewN ?_ _ | refine Below.setCell ?_ ?_ _ | refine below_step ?_ (by assumption) ?_ | exact Nat.le_refl _) | omega | (simp; omega) | (simp; done)))
 | true =>
  go_wp2_with fail
  refine (R_in11_p b 1 8 p1 H1.out _).mono ?_
  rintro e w2 ⟨rfl, hb2⟩
  have R_a_2 : Row w2 (w.heap.size) [.int .i64 (a), .int .i64 (b), .int .i64 (c), .int .i64 (d)] := by (repeat' (first | (with_reducible assumption) | (with_reducible refine Row.new' _ _ _ (by first | rfl | (simp; done) | omega)) | (with_reducible first | refine Row.alloc ?_ _ | refine Row.drew ?_ | refine Row.step ?_ (by assumption) | refine Row.drewN ?_ _) | (with_reducible refine Row.set2' ?_ _ _; first | exact ⟨_, _, by assumption⟩ | exact ⟨_, _, Row.alloc (by assumption) _⟩) | (with_reducible refine Row.other ?_ (by first | omega | (simp; omega)) _)))
  have c_a_0_2 := R_a_2.cell 0 rfl
  have c_a_1_2 := R_a_2.cell 1 rfl
  have c_a_2_2 := R_a_2.cell 2 rfl
  have c_a_3_2 := R_a_2.cell 3 rfl
  have l_a_2 := R_a_2.lt
  have HB2 : Below w.heap.size w w2 := by (repeat' (first | (with_reducible first | exact Below.refl _ _ | assumption | exact Bw.out (by assumption) | refine bw_alloc ?_ _ | refine bw_step ?_ (by assumption) | refine Below.alloc ?_ ?_ _ | refine Below.drew ?_ | refine below_drewN ?_ _ | refine Below.setCell ?_ ?_ _ | refine below_step ?_ (by assumption) ?_ | exact Nat.le_refl _) | omega | (simp; omega) | (simp; done)))
  clear R_a_1 c_a_0_1 c_a_1_1 c_a_2_1 c_a_3_1 hb1 HB1
  cases p1 with
  | false =>
   go_wp2_with fail
   go_ret
   refine ⟨(by first | rfl | exact ret_bool (by first | rfl | (simp; done) | (simp; omega))), ?_⟩
   (repeat' (first | (with_reducible first | exact Below.refl _ _ | assumption | exact Bw.out (by assumption) | refine bw_alloc ?_ _ | refine bw_step ?_ (by assumption) | refine Below.alloc ?_ ?_ _ | refine Below.drew ?_ | refine below_drewN ?_ _ | refine Below.setCell ?_ ?_ _ | refine below_step ?_ (by assumption) ?_ | exact Nat.le_refl _) | omega | (simp; omega) | (simp; done)))
  | true =>
   go_wp2_with fail
   refine (R_in11_p c 0 59 p2 H2.out _).mono ?_
   rintro e w3 ⟨rfl, hb3⟩
   have R_a_3 : Row w3 (w.heap.size) [.int .i64 (a), .int .i64 (b), .int .i64 (c), .int .i64 (d)] := by (repeat' (first | (with_reducible assumption) | (with_reducible refine Row.new' _ _ _ (by first | rfl | (simp; done) | omega)) | (with_reducible first | refine Row.alloc ?_ _ | refine Row.drew ?_ | refine Row.step ?_ (by assumption) | refine Row.drewN ?_ _) | (with_reducible refine Row.set2' ?_ _ _; first | exact ⟨_, _, by assumption⟩ | exact ⟨_, _, Row.alloc (by assumption) _⟩) | (with_reducible refine Row.other ?_ (by first | omega | (simp; omega)) _)))
   have c_a_0_3 := R_a_3.cell 0 rfl
   have c_a_1_3 := R_a_3.cell 1 rfl
   have c_a_2_3 := R_a_3.cell 2 rfl
   have c_a_3_3 := R_a_3.cell 3 rfl
   have l_a_3 := R_a_3.lt
   have HB3 : Below w.heap.size w w3 := by (repeat' (first | (with_reducible first | exact Below.refl _ _ | assumption | exact Bw.out (by assumption) | refine bw_alloc ?_ _ | refine bw_step ?_ (by assumption) | refine Below.alloc ?_ ?_ _ | refine Below.drew ?_ | refine below_drewN ?_ _ | refine Below.setCell ?_ ?_ _ | refine below_step ?_ (by assumption) ?_ | exact Nat.le_refl _) | omega | (simp; omega) | (simp; done)))
   clear R_a_2 c_a_0_2 c_a_1_2 c_a_2_2 c_a_3_2 hb2 HB2
   cases p2 with
   | false =>
    go_wp2_with fail
    go_ret
    refine ⟨(by first | rfl | exact ret_bool (by first | rfl | (simp; done) | (simp; omega))), ?_⟩
    (repeat' (first | (with_reducible first | exact Below.refl _ _ | assumption | exact Bw.out (by assumption) | refine bw_alloc ?_ _ | refine bw_step ?_ (by assumption) | refine Below.alloc ?_ ?_ _ | refine Below.drew ?_ | refine below_drewN ?_ _ | refine Below.setCell ?_ ?_ _ | refine below_step ?_ (by assumption) ?_ | exact Nat.le_refl _) | omega | (simp; omega) | (simp; done)))
   | true =>
    go_wp2_with fail
    refine (R_in11_p d 0 6 p3 H3.out _).mono ?_
    rintro e w4 ⟨rfl, hb4⟩
    have R_a_4 : Row w4 (w.heap.size) [.int .i64 (a), .int .i64 (b), .int .i64 (c), .int .i64 (d)] := by (repeat' (first | (with_reducible assumption) | (with_reducible refine Row.new' _ _ _ (by first | rfl | (simp; done) | omega)) | (with_reducible first | refine Row.alloc ?_ _ | refine Row.drew ?_ | refine Row.step ?_ (by assumption) | refine Row.drewN ?_ _) | (with_reducible refine Row.set2' ?_ _ _; first | exact ⟨_, _, by assumption⟩ | exact ⟨_, _, Row.alloc (by assumption) _⟩) | (with_reducible refine Row.other ?_ (by first | omega | (simp; omega)) _)))
    have c_a_0_4 := R_a_4.cell 0 rfl
    have c_a_1_4 := R_a_4.cell 1 rfl
    have c_a_2_4 := R_a_4.cell 2 rfl
    have c_a_3_4 := R_a_4.cell 3 rfl
    have l_a_4 := R_a_4.lt
    have HB4 : Below w.heap.size w w4 := by (repeat' (first | (with_reducible first | exact Below.refl _ _ | assumption | exact Bw.out (by assumption) | refine bw_alloc ?_ _ | refine bw_step ?_ (by assumption) | refine Below.alloc ?_ ?_ _ | refine Below.drew ?_ | refine below_drewN ?_ _ | refine Below.setCell ?_ ?_ _ | refine below_step ?_ (by assumption) ?_ | exact Nat.le_refl _) | omega | (simp; omega) | (simp; done)))
    clear R_a_3 c_a_0_3 c_a_1_3 c_a_2_3 c_a_3_3 hb3 HB3
    go_wp2_with fail
    go_ret
    refine ⟨(by first | rfl | exact ret_bool (by first | rfl | (simp; done) | (simp; omega))), ?_⟩
    (repeat' (first | (with_reducible first | exact Below.refl _ _ | assumption | exact Bw.out (by assumption) | refine bw_alloc ?_ _ | refine bw_step ?_ (by assumption) | refine Below.alloc ?_ ?_ _ | refine Below.drew ?_ | refine below_drewN ?_ _ | refine Below.setCell ?_ ?_ _ | refine below_step ?_ (by assumption) ?_ | exact Nat.le_refl _) | omega | (simp; omega) | (simp; done)))
set_option maxHeartbeats 1600000 in
theorem R_truth_any (p : Bool) (w : World) :
  Calls Tryz.prog 51 #[.bool p] w fun e w' => e = .returned (.agg #[.int .i64 (trI p), .int .i64 1]) ∧ Below w.heap.size w w' := by
 cases p with
 | false =>
  go_enter Tryz.func51, Tryz.ntmps51
  go_wp2_with fail
  refine bodyPost_ret (v := .agg #[.int .i64 0, .int .i64 1]) (by simp [results, Tryz.results51, go_sem]) rfl ⟨rfl, by (repeat' (first | (with_reducible first | exact Below.refl _ _ | assumption | exact Bw.out (by assumption) | refine bw_alloc ?_ _ | refine bw_step ?_ (by assumption) | refine Below.alloc ?_ ?_ _ | refine Below.drew ?_ | refine below_drewN ?_ _ | refine Below.setCell ?_ ?_ _ | refine below_step ?_ (by assumption) ?_ | exact Nat.le_refl _) | omega | (simp; omega) | (simp; done)))⟩
 | true =>
  go_enter Tryz.func51, Tryz.ntmps51
  go_wp2_with fail
  refine bodyPost_ret (v := .agg #[.int .i64 1, .int .i64 1]) (by simp [results, Tryz.results51, go_sem]) rfl ⟨rfl, by (repeat' (first | (with_reducible first | exact Below.refl _ _ | assumption | exact Bw.out (by assumption) | refine bw_alloc ?_ _ | refine bw_step ?_ (by assumption) | refine Below.alloc ?_ ?_ _ | refine Below.drew ?_ | refine below_drewN ?_ _ | refine Below.setCell ?_ ?_ _ | refine below_step ?_ (by assumption) ?_ | exact Nat.le_refl _) | omega | (simp; omega) | (simp; done)))⟩
theorem R_truth_p (p : Bool) (N : Int) (h : trI p = N) (w : World) :
  Calls Tryz.prog 51 #[.bool p] w fun e w' => e = .returned (.agg #[.int .i64 N, .int .i64 1]) ∧ Below w.heap.size w w' := by
 subst h; exact R_truth_any p w
theorem R_compare_p (a b c d C F : Int) (h : cmpV a b c d = C) (h2 : cmpE a b c d = F) (w : World) :
  Calls Tryz.prog 46 #[.agg #[.int .i64 a, .int .i64 b], .agg #[.int .i64 c, .int .i64 d]] w fun e w' => e = .returned (.tuple #[.int .i64 C, .int .i64 F]) ∧ Below w.heap.size w w' := by
 subst h h2; exact R_compare_any a b c d w
theorem R_make_p (n d N D E : Int) (h : mk3 n d = (N, D, E)) (w : World) :
  Calls Tryz.prog 50 #[.int .i64 n, .int .i64 d] w fun e w' => e = .returned (.tuple #[.agg #[.int .i64 N, .int .i64 D], .int .i64 E]) ∧ Below w.heap.size w w' := by
 unfold mk3 at h
 simp only [Prod.mk.injEq] at h
 obtain ⟨rfl, rfl, rfl⟩ := h
 exact R_make_any n d w
theorem R_Add_p (a b c d N D E : Int) (h : (opN a b c d (a * d + c * b) (b * d), opD a b c d (a * d + c * b) (b * d), opE a b c d (a * d + c * b) (b * d)) = (N, D, E)) (w : World) :
  Calls Tryz.prog 47 #[.agg #[.int .i64 a, .int .i64 b], .agg #[.int .i64 c, .int .i64 d]] w fun e w' => e = .returned (.tuple #[.agg #[.int .i64 N, .int .i64 D], .int .i64 E]) ∧ Below w.heap.size w w' := by
 simp only [Prod.mk.injEq] at h
 obtain ⟨rfl, rfl, rfl⟩ := h
 exact R_Add_any a b c d w
set_option maxRecDepth 100000 in
set_option maxHeartbeats 1600000 in
theorem R_apply_4 (a b c d N D E : Int) (h : ap2 4 a b c d = (N, D, E)) (w : World) :
  Calls Tryz.prog 20 #[.int .i64 4, .agg #[.int .i64 a, .int .i64 b], .agg #[.int .i64 c, .int .i64 d]] w fun e w' => e = .returned (.tuple #[.agg #[.int .i64 N, .int .i64 D], .int .i64 E]) ∧ Below w.heap.size w w' := by
 have H : Hid ((opN a b c d (a * d + c * b) (b * d), opD a b c d (a * d + c * b) (b * d), opE a b c d (a * d + c * b) (b * d)) = (N, D, E)) := h
 clear h
 obtain ⟨C, hC⟩ : ∃ C, cmpV a b c d = C := ⟨_, rfl⟩
 obtain ⟨F, hF⟩ : ∃ C, cmpE a b c d = C := ⟨_, rfl⟩
 have HC := Lib.hid hC
 have HF := Lib.hid hF
 clear hC hF
 go_enter Tryz.func20, Tryz.ntmps20
 go_wp2_with fail
 refine (R_compare_p a b c d C F HC.out HF.out _).mono ?_
 rintro e w1 ⟨rfl, hb1⟩
 have R_p_1 : Row w1 (w.heap.size) [.int .i64 (a), .int .i64 (b)] := by (repeat' (first | (with_reducible assumption) | (with_reducible refine Row.new' _ _ _ (by first | rfl | (simp; done) | omega)) | (with_reducible first | refine Row.alloc ?_ _ | refine Row.drew ?_ | refine Row.step ?_ (by assumption) | refine Row.drewN ?_ _) | (with_reducible refine Row.set2' ?_ _ _; first | exact ⟨_, _, by assumption⟩ | exact ⟨_, _, Row.alloc (by assumption) _⟩) | (with_reducible refine Row.other ?_ (by first | omega | (simp; omega)) _)))
 have c_p_0_1 := R_p_1.cell 0 rfl
 have c_p_1_1 := R_p_1.cell 1 rfl
 have l_p_1 := R_p_1.lt
 have R_q_1 : Row w1 (w.heap.size + 1) [.int .i64 (c), .int .i64 (d)] := by (repeat' (first | (with_reducible assumption) | (with_reducible refine Row.new' _ _ _ (by first | rfl | (simp; done) | omega)) | (with_reducible first | refine Row.alloc ?_ _ | refine Row.drew ?_ | refine Row.step ?_ (by assumption) | refine Row.drewN ?_ _) | (with_reducible refine Row.set2' ?_ _ _; first | exact ⟨_, _, by assumption⟩ | exact ⟨_, _, Row.alloc (by assumption) _⟩) | (with_reducible refine Row.other ?_ (by first | omega | (simp; omega)) _)))
 have c_q_0_1 := R_q_1.cell 0 rfl
 have c_q_1_1 := R_q_1.cell 1 rfl
 have l_q_1 := R_q_1.lt
 have R_o_1 : Row w1 (w.heap.size + 2) [.int .i64 (0), .int .i64 (0)] := by (repeat' (first | (with_reducible assumption) | (with_reducible refine Row.new' _ _ _ (by first | rfl | (simp; done) | omega)) | (with_reducible first | refine Row.alloc ?_ _ | refine Row.drew ?_ | refine Row.step ?_ (by assumption) | refine Row.drewN ?_ _) | (with_reducible refine Row.set2' ?_ _ _; first | exact ⟨_, _, by assumption⟩ | exact ⟨_, _, Row.alloc (by assumption) _⟩) | (with_reducible refine Row.other ?_ (by first | omega | (simp; omega)) _)))
 have c_o_0_1 := R_o_1.cell 0 rfl
 have c_o_1_1 := R_o_1.cell 1 rfl
 have z_o_0_1 := R_o_1.frozen 0
 have z_o_1_1 := R_o_1.frozen 1
 have l_o_1 := R_o_1.lt
 have HB1 : Below w.heap.size w w1 := by (repeat' (first | (with_reducible first | exact Below.refl _ _ | assumption | exact Bw.out (by assumption) | refine bw_alloc ?_ _ | refine bw_step ?_ (by assumption) | refine Below.alloc ?_ ?_ _ | refine Below.drew ?_ | refine below_drewN ?_ _ | refine Below.setCell ?_ ?_ _ | refine below_step ?_ (by assumption) ?_ | exact Nat.le_refl _) | omega | (simp; omega) | (simp; done)))
 go_wp2_with fail
 refine (R_Add_p a b c d N D E H.out _).mono ?_
 rintro e w2 ⟨rfl, hb2⟩
 have R_p_2 : Row w2 (w.heap.size) [.int .i64 (a), .int .i64 (b)] := by (repeat' (first | (with_reducible assumption) | (with_reducible refine Row.new' _ _ _ (by first | rfl | (simp; done) | omega)) | (with_reducible first | refine Row.alloc ?_ _ | refine Row.drew ?_ | refine Row.step ?_ (by assumption) | refine Row.drewN ?_ _) | (with_reducible refine Row.set2' ?_ _ _; first | exact ⟨_, _, by assumption⟩ | exact ⟨_, _, Row.alloc (by assumption) _⟩) | (with_reducible refine Row.other ?_ (by first | omega | (simp; omega)) _)))
 have c_p_0_2 := R_p_2.cell 0 rfl
 have c_p_1_2 := R_p_2.cell 1 rfl
 have l_p_2 := R_p_2.lt
 have R_q_2 : Row w2 (w.heap.size + 1) [.int .i64 (c), .int .i64 (d)] := by (repeat' (first | (with_reducible assumption) | (with_reducible refine Row.new' _ _ _ (by first | rfl | (simp; done) | omega)) | (with_reducible first | refine Row.alloc ?_ _ | refine Row.drew ?_ | refine Row.step ?_ (by assumption) | refine Row.drewN ?_ _) | (with_reducible refine Row.set2' ?_ _ _; first | exact ⟨_, _, by assumption⟩ | exact ⟨_, _, Row.alloc (by assumption) _⟩) | (with_reducible refine Row.other ?_ (by first | omega | (simp; omega)) _)))
 have c_q_0_2 := R_q_2.cell 0 rfl
 have c_q_1_2 := R_q_2.cell 1 rfl
 have l_q_2 := R_q_2.lt
 have R_o_2 : Row w2 (w.heap.size + 2) [.int .i64 (0), .int .i64 (0)] := by (repeat' (first | (with_reducible assumption) | (with_reducible refine Row.new' _ _ _ (by first | rfl | (simp; done) | omega)) | (with_reducible first | refine Row.alloc ?_ _ | refine Row.drew ?_ | refine Row.step ?_ (by assumption) | refine Row.drewN ?_ _) | (with_reducible refine Row.set2' ?_ _ _; first | exact ⟨_, _, by assumption⟩ | exact ⟨_, _, Row.alloc (by assumption) _⟩) | (with_reducible refine Row.other ?_ (by first | omega | (simp; omega)) _)))
 have c_o_0_2 := R_o_2.cell 0 rfl
 have c_o_1_2 := R_o_2.cell 1 rfl
 have z_o_0_2 := R_o_2.frozen 0
 have z_o_1_2 := R_o_2.frozen 1
 have l_o_2 := R_o_2.lt
 have HB2 : Below w.heap.size w w2 := by (repeat' (first | (with_reducible first | exact Below.refl _ _ | assumption | exact Bw.out (by assumption) | refine bw_alloc ?_ _ | refine bw_step ?_ (by assumption) | refine Below.alloc ?_ ?_ _ | refine Below.drew ?_ | refine below_drewN ?_ _ | refine Below.setCell ?_ ?_ _ | refine below_step ?_ (by assumption) ?_ | exact Nat.le_refl _) | omega | (simp; omega) | (simp; done)))
 clear R_p_1 c_p_0_1 c_p_1_1 R_q_1 c_q_0_1 c_q_1_1 R_o_1 c_o_0_1 c_o_1_1 z_o_0_1 z_o_1_1 hb1 HB1
 go_wp2_with fail
 have RP := R_o_2.set2 (.int .i64 (N)) (.int .i64 (D))
 have q0 := RP.cell 0 rfl
 have q1 := RP.cell 1 rfl
 refine bodyPost_ret (v := .tuple #[.agg #[.int .i64 (N), .int .i64 (D)], .int .i64 (E)]) (by simp [results, Tryz.results20, go_sem, q0, q1]) rfl ⟨rfl, by (repeat' (first | (with_reducible first | exact Below.refl _ _ | assumption | exact Bw.out (by assumption) | refine bw_alloc ?_ _ | refine bw_step ?_ (by assumption) | refine Below.alloc ?_ ?_ _ | refine Below.drew ?_ | refine below_drewN ?_ _ | refine Below.setCell ?_ ?_ _ | refine below_step ?_ (by assumption) ?_ | exact Nat.le_refl _) | omega | (simp; omega) | (simp; done)))⟩
theorem R_Sub_p (a b c d N D E : Int) (h : (opN a b c d (a * d - c * b) (b * d), opD a b c d (a * d - c * b) (b * d), opE a b c d (a * d - c * b) (b * d)) = (N, D, E)) (w : World) :
  Calls Tryz.prog 48 #[.agg #[.int .i64 a, .int .i64 b], .agg #[.int .i64 c, .int .i64 d]] w fun e w' => e = .returned (.tuple #[.agg #[.int .i64 N, .int .i64 D], .int .i64 E]) ∧ Below w.heap.size w w' := by
 simp only [Prod.mk.injEq] at h
 obtain ⟨rfl, rfl, rfl⟩ := h
 exact R_Sub_any a b c d w
set_option maxRecDepth 100000 in
set_option maxHeartbeats 1600000 in
theorem R_apply_5 (a b c d N D E : Int) (h : ap2 5 a b c d = (N, D, E)) (w : World) :
  Calls Tryz.prog 20 #[.int .i64 5, .agg #[.int .i64 a, .int .i64 b], .agg #[.int .i64 c, .int .i64 d]] w fun e w' => e = .returned (.tuple #[.agg #[.int .i64 N, .int .i64 D], .int .i64 E]) ∧ Below w.heap.size w w' := by
 have H : Hid ((opN a b c d (a * d - c * b) (b * d), opD a b c d (a * d - c * b) (b * d), opE a b c d (a * d - c * b) (b * d)) = (N, D, E)) := h
 clear h
 obtain ⟨C, hC⟩ : ∃ C, cmpV a b c d = C := ⟨_, rfl⟩
 obtain ⟨F, hF⟩ : ∃ C, cmpE a b c d = C := ⟨_, rfl⟩
 have HC := Lib.hid hC
 have HF := Lib.hid hF
 clear hC hF
 go_enter Tryz.func20, Tryz.ntmps20
 go_wp2_with fail
 refine (R_compare_p a b c d C F HC.out HF.out _).mono ?_
 rintro e w1 ⟨rfl, hb1⟩
 have R_p_1 : Row w1 (w.heap.size) [.int .i64 (a), .int .i64 (b)] := by (repeat' (first | (with_reducible assumption) | (with_reducible refine Row.new' _ _ _ (by first | rfl | (simp; done) | omega)) | (with_reducible first | refine Row.alloc ?_ _ | refine Row.drew ?_ | refine Row.step ?_ (by assumption) | refine Row.drewN ?_ _) | (with_reducible refine Row.set2' ?_ _ _; first | exact ⟨_, _, by assumption⟩ | exact ⟨_, _, Row.alloc (by assumption) _⟩) | (with_reducible refine Row.other ?_ (by first | omega | (simp; omega)) _)))
 have c_p_0_1 := R_p_1.cell 0 rfl
 have c_p_1_1 := R_p_1.cell 1 rfl
 have l_p_1 := R_p_1.lt
 have R_q_1 : Row w1 (w.heap.size + 1) [.int .i64 (c), .int .i64 (d)] := by (repeat' (first | (with_reducible assumption) | (with_reducible refine Row.new' _ _ _ (by first | rfl | (simp; done) | omega)) | (with_reducible first | refine Row.alloc ?_ _ | refine Row.drew ?_ | refine Row.step ?_ (by assumption) | refine Row.drewN ?_ _) | (with_reducible refine Row.set2' ?_ _ _; first | exact ⟨_, _, by assumption⟩ | exact ⟨_, _, Row.alloc (by assumption) _⟩) | (with_reducible refine Row.other ?_ (by first | omega | (simp; omega)) _)))
 have c_q_0_1 := R_q_1.cell 0 rfl
 have c_q_1_1 := R_q_1.cell 1 rfl
 have l_q_1 := R_q_1.lt
 have R_o_1 : Row w1 (w.heap.size + 2) [.int .i64 (0), .int .i64 (0)] := by (repeat' (first | (with_reducible assumption) | (with_reducible refine Row.new' _ _ _ (by first | rfl | (simp; done) | omega)) | (with_reducible first | refine Row.alloc ?_ _ | refine Row.drew ?_ | refine Row.step ?_ (by assumption) | refine Row.drewN ?_ _) | (with_reducible refine Row.set2' ?_ _ _; first | exact ⟨_, _, by assumption⟩ | exact ⟨_, _, Row.alloc (by assumption) _⟩) | (with_reducible refine Row.other ?_ (by first | omega | (simp; omega)) _)))
 have c_o_0_1 := R_o_1.cell 0 rfl
 have c_o_1_1 := R_o_1.cell 1 rfl
 have z_o_0_1 := R_o_1.frozen 0
 have z_o_1_1 := R_o_1.frozen 1
 have l_o_1 := R_o_1.lt
 have HB1 : Below w.heap.size w w1 := by (repeat' (first | (with_reducible first | exact Below.refl _ _ | assumption | exact Bw.out (by assumption) | refine bw_alloc ?_ _ | refine bw_step ?_ (by assumption) | refine Below.alloc ?_ ?_ _ | refine Below.drew ?_ | refine below_drewN ?_ _ | refine Below.setCell ?_ ?_ _ | refine below_step ?_ (by assumption) ?_ | exact Nat.le_refl _) | omega | (simp; omega) | (simp; done)))
 go_wp2_with fail
 refine (R_Sub_p a b c d N D E H.out _).mono ?_
 rintro e w2 ⟨rfl, hb2⟩
 have R_p_2 : Row w2 (w.heap.size) [.int .i64 (a), .int .i64 (b)] := by (repeat' (first | (with_reducible assumption) | (with_reducible refine Row.new' _ _ _ (by first | rfl | (simp; done) | omega)) | (with_reducible first | refine Row.alloc ?_ _ | refine Row.drew ?_ | refine Row.step ?_ (by assumption) | refine Row.drewN ?_ _) | (with_reducible refine Row.set2' ?_ _ _; first | exact ⟨_, _, by assumption⟩ | exact ⟨_, _, Row.alloc (by assumption) _⟩) | (with_reducible refine Row.other ?_ (by first | omega | (simp; omega)) _)))
 have c_p_0_2 := R_p_2.cell 0 rfl
 have c_p_1_2 := R_p_2.cell 1 rfl
 have l_p_2 := R_p_2.lt
 have R_q_2 : Row w2 (w.heap.size + 1) [.int .i64 (c), .int .i64 (d)] := by (repeat' (first | (with_reducible assumption) | (with_reducible refine Row.new' _ _ _ (by first | rfl | (simp; done) | omega)) | (with_reducible first | refine Row.alloc ?_ _ | refine Row.drew ?_ | refine Row.step ?_ (by assumption) | refine Row.drewN ?_ _) | (with_reducible refine Row.set2' ?_ _ _; first | exact ⟨_, _, by assumption⟩ | exact ⟨_, _, Row.alloc (by assumption) _⟩) | (with_reducible refine Row.other ?_ (by first | omega | (simp; omega)) _)))
 have c_q_0_2 := R_q_2.cell 0 rfl
 have c_q_1_2 := R_q_2.cell 1 rfl
 have l_q_2 := R_q_2.lt
 have R_o_2 : Row w2 (w.heap.size + 2) [.int .i64 (0), .int .i64 (0)] := by (repeat' (first | (with_reducible assumption) | (with_reducible refine Row.new' _ _ _ (by first | rfl | (simp; done) | omega)) | (with_reducible first | refine Row.alloc ?_ _ | refine Row.drew ?_ | refine Row.step ?_ (by assumption) | refine Row.drewN ?_ _) | (with_reducible refine Row.set2' ?_ _ _; first | exact ⟨_, _, by assumption⟩ | exact ⟨_, _, Row.alloc (by assumption) _⟩) | (with_reducible refine Row.other ?_ (by first | omega | (simp; omega)) _)))
 have c_o_0_2 := R_o_2.cell 0 rfl
 have c_o_1_2 := R_o_2.cell 1 rfl
 have z_o_0_2 := R_o_2.frozen 0
 have z_o_1_2 := R_o_2.frozen 1
 have l_o_2 := R_o_2.lt
 have HB2 : Below w.heap.size w w2 := by (repeat' (first | (with_reducible first | exact Below.refl _ _ | assumption | exact Bw.out (by assumption) | refine bw_alloc ?_ _ | refine bw_step ?_ (by assumption) | refine Below.alloc ?_ ?_ _ | refine Below.drew ?_ | refine below_drewN ?_ _ | refine Below.setCell ?_ ?_ _ | refine below_step ?_ (by assumption) ?_ | exact Nat.le_refl _) | omega | (simp; omega) | (simp; done)))
 clear R_p_1 c_p_0_1 c_p_1_1 R_q_1 c_q_0_1 c_q_1_1 R_o_1 c_o_0_1 c_o_1_1 z_o_0_1 z_o_1_1 hb1 HB1
 go_wp2_with fail
 have RP := R_o_2.set2 (.int .i64 (N)) (.int .i64 (D))
 have q0 := RP.cell 0 rfl
 have q1 := RP.cell 1 rfl
 refine bodyPost_ret (v := .tuple #[.agg #[.int .i64 (N), .int .i64 (D)], .int .i64 (E)]) (by simp [results, Tryz.results20, go_sem, q0, q1]) rfl ⟨rfl, by (repeat' (first | (with_reducible first | exact Below.refl _ _ | assumption | exact Bw.out (by assumption) | refine bw_alloc ?_ _ | refine bw_step ?_ (by assumption) | refine Below.alloc ?_ ?_ _ | refine Below.drew ?_ | refine below_drewN ?_ _ | refine Below.setCell ?_ ?_ _ | refine below_step ?_ (by assumption) ?_ | exact Nat.le_refl _) | omega | (simp; omega) | (simp; done)))⟩
theorem R_Mul_p (a b c d N D E : Int) (h : (opN a b c d (a * c) (b * d), opD a b c d (a * c) (b * d), opE a b c d (a * c) (b * d)) = (N, D, E)) (w : World) :
  Calls Tryz.prog 49 #[.agg #[.int .i64 a, .int .i64 b], .agg #[.int .i64 c, .int .i64 d]] w fun e w' => e = .returned (.tuple #[.agg #[.int .i64 N, .int .i64 D], .int .i64 E]) ∧ Below w.heap.size w w' := by
 simp only [Prod.mk.injEq] at h
 obtain ⟨rfl, rfl, rfl⟩ := h
 exact R_Mul_any a b c d w
set_option maxRecDepth 100000 in
set_option maxHeartbeats 1600000 in
theorem R_apply_6 (a b c d N D E : Int) (h : ap2 6 a b c d = (N, D, E)) (w : World) :
  Calls Tryz.prog 20 #[.int .i64 6, .agg #[.int .i64 a, .int .i64 b], .agg #[.int .i64 c, .int .i64 d]] w fun e w' => e = .returned (.tuple #[.agg #[.int .i64 N, .int .i64 D], .int .i64 E]) ∧ Below w.heap.size w w' := by
 have H : Hid ((opN a b c d (a * c) (b * d), opD a b c d (a * c) (b * d), opE a b c d (a * c) (b * d)) = (N, D, E)) := h
 clear h
 obtain ⟨C, hC⟩ : ∃ C, cmpV a b c d = C := ⟨_, rfl⟩
 obtain ⟨F, hF⟩ : ∃ C, cmpE a b c d = C := ⟨_, rfl⟩
 have HC := Lib.hid hC
 have HF := Lib.hid hF
 clear hC hF
 go_enter Tryz.func20, Tryz.ntmps20
 go_wp2_with fail
 refine (R_compare_p a b c d C F HC.out HF.out _).mono ?_
 rintro e w1 ⟨rfl, hb1⟩
 have R_p_1 : Row w1 (w.heap.size) [.int .i64 (a), .int .i64 (b)] := by (repeat' (first | (with_reducible assumption) | (with_reducible refine Row.new' _ _ _ (by first | rfl | (simp; done) | omega)) | (with_reducible first | refine Row.alloc ?_ _ | refine Row.drew ?_ | refine Row.step ?_ (by assumption) | refine Row.drewN ?_ _) | (with_reducible refine Row.set2' ?_ _ _; first | exact ⟨_, _, by assumption⟩ | exact ⟨_, _, Row.alloc (by assumption) _⟩) | (with_reducible refine Row.other ?_ (by first | omega | (simp; omega)) _)))
 have c_p_0_1 := R_p_1.cell 0 rfl
 have c_p_1_1 := R_p_1.cell 1 rfl
 have l_p_1 := R_p_1.lt
 have R_q_1 : Row w1 (w.heap.size + 1) [.int .i64 (c), .int .i64 (d)] := by (repeat' (first | (with_reducible assumption) | (with_reducible refine Row.new' _ _ _ (by first | rfl | (simp; done) | omega)) | (with_reducible first | refine Row.alloc ?_ _ | refine Row.drew ?_ | refine Row.step ?_ (by assumption) | refine Row.drewN ?_ _) | (with_reducible refine Row.set2' ?_ _ _; first | exact ⟨_, _, by assumption⟩ | exact ⟨_, _, Row.alloc (by assumption) _⟩) | (with_reducible refine Row.other ?_ (by first | omega | (simp; omega)) _)))
 have c_q_0_1 := R_q_1.cell 0 rfl
 have c_q_1_1 := R_q_1.cell 1 rfl
 have l_q_1 := R_q_1.lt
 have R_o_1 : Row w1 (w.heap.size + 2) [.int .i64 (0), .int .i64 (0)] := by (repeat' (first | (with_reducible assumption) | (with_reducible refine Row.new' _ _ _ (by first | rfl | (simp; done) | omega)) | (with_reducible first | refine Row.alloc ?_ _ | refine Row.drew ?_ | refine Row.step ?_ (by assumption) | refine Row.drewN ?_ _) | (with_reducible refine Row.set2' ?_ _ _; first | exact ⟨_, _, by assumption⟩ | exact ⟨_, _, Row.alloc (by assumption) _⟩) | (with_reducible refine Row.other ?_ (by first | omega | (simp; omega)) _)))
 have c_o_0_1 := R_o_1.cell 0 rfl
 have c_o_1_1 := R_o_1.cell 1 rfl
 have z_o_0_1 := R_o_1.frozen 0
 have z_o_1_1 := R_o_1.frozen 1
 have l_o_1 := R_o_1.lt
 have HB1 : Below w.heap.size w w1 := by (repeat' (first | (with_reducible first | exact Below.refl _ _ | assumption | exact Bw.out (by assumption) | refine bw_alloc ?_ _ | refine bw_step ?_ (by assumption) | refine Below.alloc ?_ ?_ _ | refine Below.drew ?_ | refine below_drewN ?_ _ | refine Below.setCell ?_ ?_ _ | refine below_step ?_ (by assumption) ?_ | exact Nat.le_refl _) | omega | (simp; omega) | (simp; done)))
 go_wp2_with fail
 refine (R_Mul_p a b c d N D E H.out _).mono ?_
 rintro e w2 ⟨rfl, hb2⟩
 have R_p_2 : Row w2 (w.heap.size) [.int .i64 (a), .int .i64 (b)] := by (repeat' (first | (with_reducible assumption) | (with_reducible refine Row.new' _ _ _ (by first | rfl | (simp; done) | omega)) | (with_reducible first | refine Row.alloc ?_ _ | refine Row.drew ?_ | refine Row.step ?_ (by assumption) | refine Row.drewN ?_ _) | (with_reducible refine Row.set2' ?_ _ _; first | exact ⟨_, _, by assumption⟩ | exact ⟨_, _, Row.alloc (by assumption) _⟩) | (with_reducible refine Row.other ?_ (by first | omega | (simp; omega)) _)))
 have c_p_0_2 := R_p_2.cell 0 rfl
 have c_p_1_2 := R_p_2.cell 1 rfl
 have l_p_2 := R_p_2.lt
 have R_q_2 : Row w2 (w.heap.size + 1) [.int .i64 (c), .int .i64 (d)] := by (repeat' (first | (with_reducible assumption) | (with_reducible refine Row.new' _ _ _ (by first | rfl | (simp; done) | omega)) | (with_reducible first | refine Row.alloc ?_ _ | refine Row.drew ?_ | refine Row.step ?_ (by assumption) | refine Row.drewN ?_ _) | (with_reducible refine Row.set2' ?_ _ _; first | exact ⟨_, _, by assumption⟩ | exact ⟨_, _, Row.alloc (by assumption) _⟩) | (with_reducible refine Row.other ?_ (by first | omega | (simp; omega)) _)))
 have c_q_0_2 := R_q_2.cell 0 rfl
 have c_q_1_2 := R_q_2.cell 1 rfl
 have l_q_2 := R_q_2.lt
 have R_o_2 : Row w2 (w.heap.size + 2) [.int .i64 (0), .int .i64 (0)] := by (repeat' (first | (with_reducible assumption) | (with_reducible refine Row.new' _ _ _ (by first | rfl | (simp; done) | omega)) | (with_reducible first | refine Row.alloc ?_ _ | refine Row.drew ?_ | refine Row.step ?_ (by assumption) | refine Row.drewN ?_ _) | (with_reducible refine Row.set2' ?_ _ _; first | exact ⟨_, _, by assumption⟩ | exact ⟨_, _, Row.alloc (by assumption) _⟩) | (with_reducible refine Row.other ?_ (by first | omega | (simp; omega)) _)))
 have c_o_0_2 := R_o_2.cell 0 rfl
 have c_o_1_2 := R_o_2.cell 1 rfl
 have z_o_0_2 := R_o_2.frozen 0
 have z_o_1_2 := R_o_2.frozen 1
 have l_o_2 := R_o_2.lt
 have HB2 : Below w.heap.size w w2 := by (repeat' (first | (with_reducible first | exact Below.refl _ _ | assumption | exact Bw.out (by assumption) | refine bw_alloc ?_ _ | refine bw_step ?_ (by assumption) | refine Below.alloc ?_ ?_ _ | refine Below.drew ?_ | refine below_drewN ?_ _ | refine Below.setCell ?_ ?_ _ | refine below_step ?_ (by assumption) ?_ | exact Nat.le_refl _) | omega | (simp; omega) | (simp; done)))
 clear R_p_1 c_p_0_1 c_p_1_1 R_q_1 c_q_0_1 c_q_1_1 R_o_1 c_o_0_1 c_o_1_1 z_o_0_1 z_o_1_1 hb1 HB1
 go_wp2_with fail
 have RP := R_o_2.set2 (.int .i64 (N)) (.int .i64 (D))
 have q0 := RP.cell 0 rfl
 have q1 := RP.cell 1 rfl
 refine bodyPost_ret (v := .tuple #[.agg #[.int .i64 (N), .int .i64 (D)], .int .i64 (E)]) (by simp [results, Tryz.results20, go_sem, q0, q1]) rfl ⟨rfl, by (repeat' (first | (with_reducible first | exact Below.refl _ _ | assumption | exact Bw.out (by assumption) | refine bw_alloc ?_ _ | refine bw_step ?_ (by assumption) | refine Below.alloc ?_ ?_ _ | refine Below.drew ?_ | refine below_drewN ?_ _ | refine Below.setCell ?_ ?_ _ | refine below_step ?_ (by assumption) ?_ | exact Nat.le_refl _) | omega | (simp; omega) | (simp; done)))⟩
set_option maxRecDepth 100000 in
set_option maxHeartbeats 1600000 in
theorem R_apply_7 (a b c d N D E : Int) (v1 : vldP a b) (v2 : vldP c d) (h : ap2 7 a b c d = (N, D, E)) (w : World) :
  Calls Tryz.prog 20 #[.int .i64 7, .agg #[.int .i64 a, .int .i64 b], .agg #[.int .i64 c, .int .i64 d]] w fun e w' => e = .returned (.tuple #[.agg #[.int .i64 N, .int .i64 D], .int .i64 E]) ∧ Below w.heap.size w w' := by
 have h' : (if c = 0 then ((0, 0, 22) : V3) else mk3 (a * d) (b * c)) = (N, D, E) := h
 clear h
 obtain ⟨p1, p2, p3, p4, _⟩ := v1
 obtain ⟨r1, r2, r3, r4, _⟩ := v2
 by_cases hc : c = 0
 ·
  rw [if_pos hc] at h'
  simp only [Prod.mk.injEq] at h'
  obtain ⟨rfl, rfl, rfl⟩ := h'
  have hc' : (c == 0) = true := by simpa using hc
  clear hc
  obtain ⟨C, hC⟩ : ∃ C, cmpV a b c d = C := ⟨_, rfl⟩
  obtain ⟨F, hF⟩ : ∃ C, cmpE a b c d = C := ⟨_, rfl⟩
  have HC := Lib.hid hC
  have HF := Lib.hid hF
  clear hC hF
  go_enter Tryz.func20, Tryz.ntmps20
  go_wp2_with fail
  refine (R_compare_p a b c d C F HC.out HF.out _).mono ?_
  rintro e w1 ⟨rfl, hb1⟩
  have R_p_1 : Row w1 (w.heap.size) [.int .i64 (a), .int .i64 (b)] := by (repeat' (first | (with_reducible assumption) | (with_reducible refine Row.new' _ _ _ (by first | rfl | (simp; done) | omega)) | (with_reducible first | refine Row.alloc ?_ _ | refine Row.drew ?_ | refine Row.step ?_ (by assumption) | refine Row.drewN ?_ _) | (with_reducible refine Row.set2' ?_ _ _; first | exact ⟨_, _, by assumption⟩ | exact ⟨_, _, Row.alloc (by assumption) _⟩) | (with_reducible refine Row.other ?_ (by first | omega | (simp; omega)) _)))
  have c_p_0_1 := R_p_1.cell 0 rfl
  have c_p_1_1 := R_p_1.cell 1 rfl
  have l_p_1 := R_p_1.lt
  have R_q_1 : Row w1 (w.heap.size + 1) [.int .i64 (c), .int .i64 (d)] := by (repeat' (first | (with_reducible assumption) | (with_reducible refine Row.new' _ _ _ (by first | rfl | (simp; done) | omega)) | (with_reducible first | refine Row.alloc ?_ _ | refine Row.drew ?_ | refine Row.step ?_ (by assumption) | refine Row.drewN ?_ _) | (with_reducible refine Row.set2' ?_ _ _; first | exact ⟨_, _, by assumption⟩ | exact ⟨_, _, Row.alloc (by assumption) _⟩) | (with_reducible refine Row.other ?_ (by first | omega | (simp; omega)) _)))
  have c_q_0_1 := R_q_1.cell 0 rfl
  have c_q_1_1 := R_q_1.cell 1 rfl
  have l_q_1 := R_q_1.lt
  have R_o_1 : Row w1 (w.heap.size + 2) [.int .i64 (0), .int .i64 (0)] := by (repeat' (first | (with_reducible assumption) | (with_reducible refine Row.new' _ _ _ (by first | rfl | (simp; done) | omega)) | (with_reducible first | refine Row.alloc ?_ _ | refine Row.drew ?_ | refine Row.step ?_ (by assumption) | refine Row.drewN ?_ _) | (with_reducible refine Row.set2' ?_ _ _; first | exact ⟨_, _, by assumption⟩ | exact ⟨_, _, Row.alloc (by assumption) _⟩) | (with_reducible refine Row.other ?_ (by first | omega | (simp; omega)) _)))
  have c_o_0_1 := R_o_1.cell 0 rfl
  have c_o_1_1 := R_o_1.cell 1 rfl
  have z_o_0_1 := R_o_1.frozen 0
  have z_o_1_1 := R_o_1.frozen 1
  have l_o_1 := R_o_1.lt
  have HB1 : Below w.heap.size w w1 := by (repeat' (first | (with_reducible first | exact Below.refl _ _ | assumption | exact Bw.out (by assumption) | refine bw_alloc ?_ _ | refine bw_step ?_ (by assumption) | refine Below.alloc ?_ ?_ _ | refine Below.drew ?_ | refine below_drewN ?_ _ | refine Below.setCell ?_ ?_ _ | refine below_step ?_ (by assumption) ?_ | exact Nat.le_refl _) | omega | (simp; omega) | (simp; done)))
  go_wp2_with fail
  have RP := R_o_1.set2 (.int .i64 (0)) (.int .i64 (0))
  have q0 := RP.cell 0 rfl
  have q1 := RP.cell 1 rfl
  refine bodyPost_ret (v := .tuple #[.agg #[.int .i64 (0), .int .i64 (0)], .int .i64 (22)]) (by simp [results, Tryz.results20, go_sem, q0, q1]) rfl ⟨rfl, by (repeat' (first | (with_reducible first | exact Below.refl _ _ | assumption | exact Bw.out (by assumption) | refine bw_alloc ?_ _ | refine bw_step ?_ (by assumption) | refine Below.alloc ?_ ?_ _ | refine Below.drew ?_ | refine below_drewN ?_ _ | refine Below.setCell ?_ ?_ _ | refine below_step ?_ (by assumption) ?_ | exact Nat.le_refl _) | omega | (simp; omega) | (simp; done)))⟩
 ·
  rw [if_neg hc] at h'
  have hc' : (c == 0) = false := by simpa using hc
  have H := Lib.hid h'
  obtain ⟨m1, m2⟩ := mul_le_1e15 (a := a) (b := d) (x := 1000000000) (y := 1000000000) (by omega) (by omega) (by omega) (by omega)
  obtain ⟨m3, m4⟩ := mul_le_1e15 (a := b) (b := c) (x := 1000000000) (y := 1000000000) (by omega) (by omega) (by omega) (by omega)
  clear hc h'
  obtain ⟨C, hC⟩ : ∃ C, cmpV a b c d = C := ⟨_, rfl⟩
  obtain ⟨F, hF⟩ : ∃ C, cmpE a b c d = C := ⟨_, rfl⟩
  have HC := Lib.hid hC
  have HF := Lib.hid hF
  clear hC hF
  go_enter Tryz.func20, Tryz.ntmps20
  go_wp2_with fail
  refine (R_compare_p a b c d C F HC.out HF.out _).mono ?_
  rintro e w1 ⟨rfl, hb1⟩
  have R_p_1 : Row w1 (w.heap.size) [.int .i64 (a), .int .i64 (b)] := by (repeat' (first | (with_reducible assumption) | (with_reducible refine Row.new' _ _ _ (by first | rfl | (simp; done) | omega)) | (with_reducible first | refine Row.alloc ?_ _ | refine Row.drew ?_ | refine Row.step ?_ (by assumption) | refine Row.drewN ?_ _) | (with_reducible refine Row.set2' ?_ _ _; first | exact ⟨_, _, by assumption⟩ | exact ⟨_, _, Row.alloc (by assumption) _⟩) | (with_reducible refine Row.other ?_ (by first | omega | (simp; omega)) _)))
  have c_p_0_1 := R_p_1.cell 0 rfl
  have c_p_1_1 := R_p_1.cell 1 rfl
  have l_p_1 := R_p_1.lt
  have R_q_1 : Row w1 (w.heap.size + 1) [.int .i64 (c), .int .i64 (d)] := by (repeat' (first | (with_reducible assumption) | (with_reducible refine Row.new' _ _ _ (by first | rfl | (simp; done) | omega)) | (with_reducible first | refine Row.alloc ?_ _ | refine Row.drew ?_ | refine Row.step ?_ (by assumption) | refine Row.drewN ?_ _) | (with_reducible refine Row.set2' ?_ _ _; first | exact ⟨_, _, by assumption⟩ | exact ⟨_, _, Row.alloc (by assumption) _⟩) | (with_reducible refine Row.other ?_ (by first | omega | (simp; omega)) _)))
  have c_q_0_1 := R_q_1.cell 0 rfl
  have c_q_1_1 := R_q_1.cell 1 rfl
  have l_q_1 := R_q_1.lt
  have R_o_1 : Row w1 (w.heap.size + 2) [.int .i64 (0), .int .i64 (0)] := by (repeat' (first | (with_reducible assumption) | (with_reducible refine Row.new' _ _ _ (by first | rfl | (simp; done) | omega)) | (with_reducible first | refine Row.alloc ?_ _ | refine Row.drew ?_ | refine Row.step ?_ (by assumption) | refine Row.drewN ?_ _) | (with_reducible refine Row.set2' ?_ _ _; first | exact ⟨_, _, by assumption⟩ | exact ⟨_, _, Row.alloc (by assumption) _⟩) | (with_reducible refine Row.other ?_ (by first | omega | (simp; omega)) _)))
  have c_o_0_1 := R_o_1.cell 0 rfl
  have c_o_1_1 := R_o_1.cell 1 rfl
  have z_o_0_1 := R_o_1.frozen 0
  have z_o_1_1 := R_o_1.frozen 1
  have l_o_1 := R_o_1.lt
  have HB1 : Below w.heap.size w w1 := by (repeat' (first | (with_reducible first | exact Below.refl _ _ | assumption | exact Bw.out (by assumption) | refine bw_alloc ?_ _ | refine bw_step ?_ (by assumption) | refine Below.alloc ?_ ?_ _ | refine Below.drew ?_ | refine below_drewN ?_ _ | refine Below.setCell ?_ ?_ _ | refine below_step ?_ (by assumption) ?_ | exact Nat.le_refl _) | omega | (simp; omega) | (simp; done)))
  go_wp2_with fail
  refine (R_make_p (a * d) (b * c) N D E H.out _).mono ?_
  rintro e w2 ⟨rfl, hb2⟩
  have R_p_2 : Row w2 (w.heap.size) [.int .i64 (a), .int .i64 (b)] := by (repeat' (first | (with_reducible assumption) | (with_reducible refine Row.new' _ _ _ (by first | rfl | (simp; done) | omega)) | (with_reducible first | refine Row.alloc ?_ _ | refine Row.drew ?_ | refine Row.step ?_ (by assumption) | refine Row.drewN ?_ _) | (with_reducible refine Row.set2' ?_ _ _; first | exact ⟨_, _, by assumption⟩ | exact ⟨_, _, Row.alloc (by assumption) _⟩) | (with_reducible refine Row.other ?_ (by first | omega | (simp; omega)) _)))
  have c_p_0_2 := R_p_2.cell 0 rfl
  have c_p_1_2 := R_p_2.cell 1 rfl
  have l_p_2 := R_p_2.lt
  have R_q_2 : Row w2 (w.heap.size + 1) [.int .i64 (c), .int .i64 (d)] := by (repeat' (first | (with_reducible assumption) | (with_reducible refine Row.new' _ _ _ (by first | rfl | (simp; done) | omega)) | (with_reducible first | refine Row.alloc ?_ _ | refine Row.drew ?_ | refine Row.step ?_ (by assumption) | refine Row.drewN ?_ _) | (with_reducible refine Row.set2' ?_ _ _; first | exact ⟨_, _, by assumption⟩ | exact ⟨_, _, Row.alloc (by assumption) _⟩) | (with_reducible refine Row.other ?_ (by first | omega | (simp; omega)) _)))
  have c_q_0_2 := R_q_2.cell 0 rfl
  have c_q_1_2 := R_q_2.cell 1 rfl
  have l_q_2 := R_q_2.lt
  have R_o_2 : Row w2 (w.heap.size + 2) [.int .i64 (0), .int .i64 (0)] := by (repeat' (first | (with_reducible assumption) | (with_reducible refine Row.new' _ _ _ (by first | rfl | (simp; done) | omega)) | (with_reducible first | refine Row.alloc ?_ _ | refine Row.drew ?_ | refine Row.step ?_ (by assumption) | refine Row.drewN ?_ _) | (with_reducible refine Row.set2' ?_ _ _; first | exact ⟨_, _, by assumption⟩ | exact ⟨_, _, Row.alloc (by assumption) _⟩) | (with_reducible refine Row.other ?_ (by first | omega | (simp; omega)) _)))
  have c_o_0_2 := R_o_2.cell 0 rfl
  have c_o_1_2 := R_o_2.cell 1 rfl
  have z_o_0_2 := R_o_2.frozen 0
  have z_o_1_2 := R_o_2.frozen 1
  have l_o_2 := R_o_2.lt
  have HB2 : Below w.heap.size w w2 := by (repeat' (first | (with_reducible first | exact Below.refl _ _ | assumption | exact Bw.out (by assumption) | refine bw_alloc ?_ _ | refine bw_step ?_ (by assumption) | refine Below.alloc ?_ ?_ _ | refine Below.drew ?_ | refine below_drewN ?_ _ | refine Below.setCell ?_ ?_ _ | refine below_step ?_ (by assumption) ?_ | exact Nat.le_refl _) | omega | (simp; omega) | (simp; done)))
  clear R_p_1 c_p_0_1 c_p_1_1 R_q_1 c_q_0_1 c_q_1_1 R_o_1 c_o_0_1 c_o_1_1 z_o_0_1 z_o_1_1 hb1 HB1
  go_wp2_with fail
  have RP := R_o_2.set2 (.int .i64 (N)) (.int .i64 (D))
  have q0 := RP.cell 0 rfl
  have q1 := RP.cell 1 rfl
  refine bodyPost_ret (v := .tuple #[.agg #[.int .i64 (N), .int .i64 (D)], .int .i64 (E)]) (by simp [results, Tryz.results20, go_sem, q0, q1]) rfl ⟨rfl, by (repeat' (first | (with_reducible first | exact Below.refl _ _ | assumption | exact Bw.out (by assumption) | refine bw_alloc ?_ _ | refine bw_step ?_ (by assumption) | refine Below.alloc ?_ ?_ _ | refine Below.drew ?_ | refine below_drewN ?_ _ | refine Below.setCell ?_ ?_ _ | refine below_step ?_ (by assumption) ?_ | exact Nat.le_refl _) | omega | (simp; omega) | (simp; done)))⟩
set_option maxRecDepth 100000 in
set_option maxHeartbeats 1600000 in
theorem R_apply_8 (a b c d N D E : Int) (h : ap2 8 a b c d = (N, D, E)) (w : World) :
  Calls Tryz.prog 20 #[.int .i64 8, .agg #[.int .i64 a, .int .i64 b], .agg #[.int .i64 c, .int .i64 d]] w fun e w' => e = .returned (.tuple #[.agg #[.int .i64 N, .int .i64 D], .int .i64 E]) ∧ Below w.heap.size w w' := by
 have h' : (if cmpV a b c d < 0 then ((a, b, 0) : V3) else (c, d, 0)) = (N, D, E) := h
 clear h
 obtain ⟨C, hC⟩ : ∃ C, cmpV a b c d = C := ⟨_, rfl⟩
 obtain ⟨F, hF⟩ : ∃ C, cmpE a b c d = C := ⟨_, rfl⟩
 rw [hC] at h'
 have HC := Lib.hid hC
 have HF := Lib.hid hF
 clear hC hF
 by_cases hc : C < 0
 ·
  rw [if_pos hc] at h'
  simp only [Prod.mk.injEq] at h'
  obtain ⟨rfl, rfl, rfl⟩ := h'
  go_enter Tryz.func20, Tryz.ntmps20
  go_wp2_with fail
  refine (R_compare_p a b c d C F HC.out HF.out _).mono ?_
  rintro e w1 ⟨rfl, hb1⟩
  have R_p_1 : Row w1 (w.heap.size) [.int .i64 (a), .int .i64 (b)] := by (repeat' (first | (with_reducible assumption) | (with_reducible refine Row.new' _ _ _ (by first | rfl | (simp; done) | omega)) | (with_reducible first | refine Row.alloc ?_ _ | refine Row.drew ?_ | refine Row.step ?_ (by assumption) | refine Row.drewN ?_ _) | (with_reducible refine Row.set2' ?_ _ _; first | exact ⟨_, _, by assumption⟩ | exact ⟨_, _, Row.alloc (by assumption) _⟩) | (with_reducible refine Row.other ?_ (by first | omega | (simp; omega)) _)))
  have c_p_0_1 := R_p_1.cell 0 rfl
  have c_p_1_1 := R_p_1.cell 1 rfl
  have l_p_1 := R_p_1.lt
  have R_q_1 : Row w1 (w.heap.size + 1) [.int .i64 (c), .int .i64 (d)] := by (repeat' (first | (with_reducible assumption) | (with_reducible refine Row.new' _ _ _ (by first | rfl | (simp; done) | omega)) | (with_reducible first | refine Row.alloc ?_ _ | refine Row.drew ?_ | refine Row.step ?_ (by assumption) | refine Row.drewN ?_ _) | (with_reducible refine Row.set2' ?_ _ _; first | exact ⟨_, _, by assumption⟩ | exact ⟨_, _, Row.alloc (by assumption) _⟩) | (with_reducible refine Row.other ?_ (by first | omega | (simp; omega)) _)))
  have c_q_0_1 := R_q_1.cell 0 rfl
  have c_q_1_1 := R_q_1.cell 1 rfl
  have l_q_1 := R_q_1.lt
  have R_o_1 : Row w1 (w.heap.size + 2) [.int .i64 (0), .int .i64 (0)] := by (repeat' (first | (with_reducible assumption) | (with_reducible refine Row.new' _ _ _ (by first | rfl | (simp; done) | omega)) | (with_reducible first | refine Row.alloc ?_ _ | refine Row.drew ?_ | refine Row.step ?_ (by assumption) | refine Row.drewN ?_ _) | (with_reducible refine Row.set2' ?_ _ _; first | exact ⟨_, _, by assumption⟩ | exact ⟨_, _, Row.alloc (by assumption) _⟩) | (with_reducible refine Row.other ?_ (by first | omega | (simp; omega)) _)))
  have c_o_0_1 := R_o_1.cell 0 rfl
  have c_o_1_1 := R_o_1.cell 1 rfl
  have z_o_0_1 := R_o_1.frozen 0
  have z_o_1_1 := R_o_1.frozen 1
  have l_o_1 := R_o_1.lt
  have HB1 : Below w.heap.size w w1 := by (repeat' (first | (with_reducible first | exact Below.refl _ _ | assumption | exact Bw.out (by assumption) | refine bw_alloc ?_ _ | refine bw_step ?_ (by assumption) | refine Below.alloc ?_ ?_ _ | refine Below.drew ?_ | refine below_drewN ?_ _ | refine Below.setCell ?_ ?_ _ | refine below_step ?_ (by assumption) ?_ | exact Nat.le_refl _) | omega | (simp; omega) | (simp; done)))
  go_wp2_with fail
  have RP := R_o_1.set2 (.int .i64 (a)) (.int .i64 (b))
  have q0 := RP.cell 0 rfl
  have q1 := RP.cell 1 rfl
  refine bodyPost_ret (v := .tuple #[.agg #[.int .i64 (a), .int .i64 (b)], .int .i64 (0)]) (by simp [results, Tryz.results20, go_sem, q0, q1]) rfl ⟨rfl, by (repeat' (first | (with_reducible first | exact Below.refl _ _ | assumption | exact Bw.out (by assumption) | refine bw_alloc ?_ _ | refine bw_step ?_ (by assumption) | refine Below.alloc ?_ ?_ _ | refine Below.drew ?_ | refine below_drewN ?_ _ | refine Below.setCell ?_ ?_ _ | refine below_step ?_ (by assumption) ?_ | exact Nat.le_refl _) | omega | (simp; omega) | (simp; done)))⟩
 ·
  rw [if_neg hc] at h'
  simp only [Prod.mk.injEq] at h'
  obtain ⟨rfl, rfl, rfl⟩ := h'
  go_enter Tryz.func20, Tryz.ntmps20
  go_wp2_with fail
  refine (R_compare_p a b c d C F HC.out HF.out _).mono ?_
  rintro e w1 ⟨rfl, hb1⟩
  have R_p_1 : Row w1 (w.heap.size) [.int .i64 (a), .int .i64 (b)] := by (repeat' (first | (with_reducible assumption) | (with_reducible refine Row.new' _ _ _ (by first | rfl | (simp; done) | omega)) | (with_reducible first | refine Row.alloc ?_ _ | refine Row.drew ?_ | refine Row.step ?_ (by assumption) | refine Row.drewN ?_ _) | (with_reducible refine Row.set2' ?_ _ _; first | exact ⟨_, _, by assumption⟩ | exact ⟨_, _, Row.alloc (by assumption) _⟩) | (with_reducible refine Row.other ?_ (by first | omega | (simp; omega)) _)))
  have c_p_0_1 := R_p_1.cell 0 rfl
  have c_p_1_1 := R_p_1.cell 1 rfl
  have l_p_1 := R_p_1.lt
  have R_q_1 : Row w1 (w.heap.size + 1) [.int .i64 (c), .int .i64 (d)] := by (repeat' (first | (with_reducible assumption) | (with_reducible refine Row.new' _ _ _ (by first | rfl | (simp; done) | omega)) | (with_reducible first | refine Row.alloc ?_ _ | refine Row.drew ?_ | refine Row.step ?_ (by assumption) | refine Row.drewN ?_ _) | (with_reducible refine Row.set2' ?_ _ _; first | exact ⟨_, _, by assumption⟩ | exact ⟨_, _, Row.alloc (by assumption) _⟩) | (with_reducible refine Row.other ?_ (by first | omega | (simp; omega)) _)))
  have c_q_0_1 := R_q_1.cell 0 rfl
  have c_q_1_1 := R_q_1.cell 1 rfl
  have l_q_1 := R_q_1.lt
  have R_o_1 : Row w1 (w.heap.size + 2) [.int .i64 (0), .int .i64 (0)] := by (repeat' (first | (with_reducible assumption) | (with_reducible refine Row.new' _ _ _ (by first | rfl | (simp; done) | omega)) | (with_reducible first | refine Row.alloc ?_ _ | refine Row.drew ?_ | refine Row.step ?_ (by assumption) | refine Row.drewN ?_ _) | (with_reducible refine Row.set2' ?_ _ _; first | exact ⟨_, _, by assumption⟩ | exact ⟨_, _, Row.alloc (by assumption) _⟩) | (with_reducible refine Row.other ?_ (by first | omega | (simp; omega)) _)))
  have c_o_0_1 := R_o_1.cell 0 rfl
  have c_o_1_1 := R_o_1.cell 1 rfl
  have z_o_0_1 := R_o_1.frozen 0
  have z_o_1_1 := R_o_1.frozen 1
  have l_o_1 := R_o_1.lt
  have HB1 : Below w.heap.size w w1 := by (repeat' (first | (with_reducible first | exact Below.refl _ _ | assumption | exact Bw.out (by assumption) | refine bw_alloc ?_ _ | refine bw_step ?_ (by assumption) | refine Below.alloc ?_ ?_ _ | refine Below.drew ?_ | refine below_drewN ?_ _ | refine Below.setCell ?_ ?_ _ | refine below_step ?_ (by assumption) ?_ | exact Nat.le_refl _) | omega | (simp; omega) | (simp; done)))
  go_wp2_with fail
  have RP := R_o_1.set2 (.int .i64 (c)) (.int .i64 (d))
  have q0 := RP.cell 0 rfl
  have q1 := RP.cell 1 rfl
  refine bodyPost_ret (v := .tuple #[.agg #[.int .i64 (c), .int .i64 (d)], .int .i64 (0)]) (by simp [results, Tryz.results20, go_sem, q0, q1]) rfl ⟨rfl, by (repeat' (first | (with_reducible first | exact Below.refl _ _ | assumption | exact Bw.out (by assumption) | refine bw_alloc ?_ _ | refine bw_step ?_ (by assumption) | refine Below.alloc ?_ ?_ _ | refine Below.drew ?_ | refine below_drewN ?_ _ | refine Below.setCell ?_ ?_ _ | refine below_step ?_ (by assumption) ?_ | exact Nat.le_refl _) | omega | (simp; omega) | (simp; done)))⟩
set_option maxRecDepth 100000 in
set_option maxHeartbeats 1600000 in
theorem R_apply_9 (a b c d N D E : Int) (h : ap2 9 a b c d = (N, D, E)) (w : World) :
  Calls Tryz.prog 20 #[.int .i64 9, .agg #[.int .i64 a, .int .i64 b], .agg #[.int .i64 c, .int .i64 d]] w fun e w' => e = .returned (.tuple #[.agg #[.int .i64 N, .int .i64 D], .int .i64 E]) ∧ Below w.heap.size w w' := by
 have h' : (if 0 < cmpV a b c d then ((a, b, 0) : V3) else (c, d, 0)) = (N, D, E) := h
 clear h
 obtain ⟨C, hC⟩ : ∃ C, cmpV a b c d = C := ⟨_, rfl⟩
 obtain ⟨F, hF⟩ : ∃ C, cmpE a b c d = C := ⟨_, rfl⟩
 rw [hC] at h'
 have HC := Lib.hid hC
 have HF := Lib.hid hF
 clear hC hF
 by_cases hc : 0 < C
 ·
  rw [if_pos hc] at h'
  simp only [Prod.mk.injEq] at h'
  obtain ⟨rfl, rfl, rfl⟩ := h'
  go_enter Tryz.func20, Tryz.ntmps20
  go_wp2_with fail
  refine (R_compare_p a b c d C F HC.out HF.out _).mono ?_
  rintro e w1 ⟨rfl, hb1⟩
  have R_p_1 : Row w1 (w.heap.size) [.int .i64 (a), .int .i64 (b)] := by (repeat' (first | (with_reducible assumption) | (with_reducible refine Row.new' _ _ _ (by first | rfl | (simp; done) | omega)) | (with_reducible first | refine Row.alloc ?_ _ | refine Row.drew ?_ | refine Row.step ?_ (by assumption) | refine Row.drewN ?_ _) | (with_reducible refine Row.set2' ?_ _ _; first | exact ⟨_, _, by assumption⟩ | exact ⟨_, _, Row.alloc (by assumption) _⟩) | (with_reducible refine Row.other ?_ (by first | omega | (simp; omega)) _)))
  have c_p_0_1 := R_p_1.cell 0 rfl
  have c_p_1_1 := R_p_1.cell 1 rfl
  have l_p_1 := R_p_1.lt
  have R_q_1 : Row w1 (w.heap.size + 1) [.int .i64 (c), .int .i64 (d)] := by (repeat' (first | (with_reducible assumption) | (with_reducible refine Row.new' _ _ _ (by first | rfl | (simp; done) | omega)) | (with_reducible first | refine Row.alloc ?_ _ | refine Row.drew ?_ | refine Row.step ?_ (by assumption) | refine Row.drewN ?_ _) | (with_reducible refine Row.set2' ?_ _ _; first | exact ⟨_, _, by assumption⟩ | exact ⟨_, _, Row.alloc (by assumption) _⟩) | (with_reducible refine Row.other ?_ (by first | omega | (simp; omega)) _)))
  have c_q_0_1 := R_q_1.cell 0 rfl
  have c_q_1_1 := R_q_1.cell 1 rfl
  have l_q_1 := R_q_1.lt
  have R_o_1 : Row w1 (w.heap.size + 2) [.int .i64 (0), .int .i64 (0)] := by (repeat' (first | (with_reducible assumption) | (with_reducible refine Row.new' _ _ _ (by first | rfl | (simp; done) | omega)) | (with_reducible first | refine Row.alloc ?_ _ | refine Row.drew ?_ | refine Row.step ?_ (by assumption) | refine Row.drewN ?_ _) | (with_reducible refine Row.set2' ?_ _ _; first | exact ⟨_, _, by assumption⟩ | exact ⟨_, _, Row.alloc (by assumption) _⟩) | (with_reducible refine Row.other ?_ (by first | omega | (simp; omega)) _)))
  have c_o_0_1 := R_o_1.cell 0 rfl
  have c_o_1_1 := R_o_1.cell 1 rfl
  have z_o_0_1 := R_o_1.frozen 0
  have z_o_1_1 := R_o_1.frozen 1
  have l_o_1 := R_o_1.lt
  have HB1 : Below w.heap.size w w1 := by (repeat' (first | (with_reducible first | exact Below.refl _ _ | assumption | exact Bw.out (by assumption) | refine bw_alloc ?_ _ | refine bw_step ?_ (by assumption) | refine Below.alloc ?_ ?_ _ | refine Below.drew ?_ | refine below_drewN ?_ _ | refine Below.setCell ?_ ?_ _ | refine below_step ?_ (by assumption) ?_ | exact Nat.le_refl _) | omega | (simp; omega) | (simp; done)))
  go_wp2_with fail
  have RP := R_o_1.set2 (.int .i64 (a)) (.int .i64 (b))
  have q0 := RP.cell 0 rfl
  have q1 := RP.cell 1 rfl
  refine bodyPost_ret (v := .tuple #[.agg #[.int .i64 (a), .int .i64 (b)], .int .i64 (0)]) (by simp [results, Tryz.results20, go_sem, q0, q1]) rfl ⟨rfl, by (repeat' (first | (with_reducible first | exact Below.refl _ _ | assumption | exact Bw.out (by assumption) | refine bw_alloc ?_ _ | refine bw_step ?_ (by assumption) | refine Below.alloc ?_ ?_ _ | refine Below.drew ?_ | refine below_drewN ?_ _ | refine Below.setCell ?_ ?_ _ | refine below_step ?_ (by assumption) ?_ | exact Nat.le_refl _) | omega | (simp; omega) | (simp; done)))⟩
 ·
  rw [if_neg hc] at h'
  simp only [Prod.mk.injEq] at h'
  obtain ⟨rfl, rfl, rfl⟩ := h'
  go_enter Tryz.func20, Tryz.ntmps20
  go_wp2_with fail
  refine (R_compare_p a b c d C F HC.out HF.out _).mono ?_
  rintro e w1 ⟨rfl, hb1⟩
  have R_p_1 : Row w1 (w.heap.size) [.int .i64 (a), .int .i64 (b)] := by (repeat' (first | (with_reducible assumption) | (with_reducible refine Row.new' _ _ _ (by first | rfl | (simp; done) | omega)) | (with_reducible first | refine Row.alloc ?_ _ | refine Row.drew ?_ | refine Row.step ?_ (by assumption) | refine Row.drewN ?_ _) | (with_reducible refine Row.set2' ?_ _ _; first | exact ⟨_, _, by assumption⟩ | exact ⟨_, _, Row.alloc (by assumption) _⟩) | (with_reducible refine Row.other ?_ (by first | omega | (simp; omega)) _)))
  have c_p_0_1 := R_p_1.cell 0 rfl
  have c_p_1_1 := R_p_1.cell 1 rfl
  have l_p_1 := R_p_1.lt
  have R_q_1 : Row w1 (w.heap.size + 1) [.int .i64 (c), .int .i64 (d)] := by (repeat' (first | (with_reducible assumption) | (with_reducible refine Row.new' _ _ _ (by first | rfl | (simp; done) | omega)) | (with_reducible first | refine Row.alloc ?_ _ | refine Row.drew ?_ | refine Row.step ?_ (by assumption) | refine Row.drewN ?_ _) | (with_reducible refine Row.set2' ?_ _ _; first | exact ⟨_, _, by assumption⟩ | exact ⟨_, _, Row.alloc (by assumption) _⟩) | (with_reducible refine Row.other ?_ (by first | omega | (simp; omega)) _)))
  have c_q_0_1 := R_q_1.cell 0 rfl
  have c_q_1_1 := R_q_1.cell 1 rfl
  have l_q_1 := R_q_1.lt
  have R_o_1 : Row w1 (w.heap.size + 2) [.int .i64 (0), .int .i64 (0)] := by (repeat' (first | (with_reducible assumption) | (with_reducible refine Row.new' _ _ _ (by first | rfl | (simp; done) | omega)) | (with_reducible first | refine Row.alloc ?_ _ | refine Row.drew ?_ | refine Row.step ?_ (by assumption) | refine Row.drewN ?_ _) | (with_reducible refine Row.set2' ?_ _ _; first | exact ⟨_, _, by assumption⟩ | exact ⟨_, _, Row.alloc (by assumption) _⟩) | (with_reducible refine Row.other ?_ (by first | omega | (simp; omega)) _)))
  have c_o_0_1 := R_o_1.cell 0 rfl
  have c_o_1_1 := R_o_1.cell 1 rfl
  have z_o_0_1 := R_o_1.frozen 0
  have z_o_1_1 := R_o_1.frozen 1
  have l_o_1 := R_o_1.lt
  have HB1 : Below w.heap.size w w1 := by (repeat' (first | (with_reducible first | exact Below.refl _ _ | assumption | exact Bw.out (by assumption) | refine bw_alloc ?_ _ | refine bw_step ?_ (by assumption) | refine Below.alloc ?_ ?_ _ | refine Below.drew ?_ | refine below_drewN ?_ _ | refine Below.setCell ?_ ?_ _ | refine below_step ?_ (by assumption) ?_ | exact Nat.le_refl _) | omega | (simp; omega) | (simp; done)))
  go_wp2_with fail
  have RP := R_o_1.set2 (.int .i64 (c)) (.int .i64 (d))
  have q0 := RP.cell 0 rfl
  have q1 := RP.cell 1 rfl
  refine bodyPost_ret (v := .tuple #[.agg #[.int .i64 (c), .int .i64 (d)], .int .i64 (0)]) (by simp [results, Tryz.results20, go_sem, q0, q1]) rfl ⟨rfl, by (repeat' (first | (with_reducible first | exact Below.refl _ _ | assumption | exact Bw.out (by assumption) | refine bw_alloc ?_ _ | refine bw_step ?_ (by assumption) | refine Below.alloc ?_ ?_ _ | refine Below.drew ?_ | refine below_drewN ?_ _ | refine Below.setCell ?_ ?_ _ | refine below_step ?_ (by assumption) ?_ | exact Nat.le_refl _) | omega | (simp; omega) | (simp; done)))⟩
set_option maxRecDepth 100000 in
set_option maxHeartbeats 1600000 in
theorem R_apply_11 (a b c d N D E : Int) (h : ap2 11 a b c d = (N, D, E)) (w : World) :
  Calls Tryz.prog 20 #[.int .i64 11, .agg #[.int .i64 a, .int .i64 b], .agg #[.int .i64 c, .int .i64 d]] w fun e w' => e = .returned (.tuple #[.agg #[.int .i64 N, .int .i64 D], .int .i64 E]) ∧ Below w.heap.size w w' := by
 have h' : ((trI (decide (cmpV a b c d < 0)), 1, 0) : V3) = (N, D, E) := h
 clear h
 simp only [Prod.mk.injEq] at h'
 obtain ⟨hN, rfl, rfl⟩ := h'
 obtain ⟨C, hC⟩ : ∃ C, cmpV a b c d = C := ⟨_, rfl⟩
 obtain ⟨F, hF⟩ : ∃ C, cmpE a b c d = C := ⟨_, rfl⟩
 rw [hC] at hN
 have HN : Hid (trI (decide (C < 0)) = N) := by
  show _ = _
  rw [← hN]
  all_goals first | rfl | (congr 1)
 have HC := Lib.hid hC
 have HF := Lib.hid hF
 clear hC hF hN
 go_enter Tryz.func20, Tryz.ntmps20
 go_wp2_with fail
 refine (R_compare_p a b c d C F HC.out HF.out _).mono ?_
 rintro e w1 ⟨rfl, hb1⟩
 have R_p_1 : Row w1 (w.heap.size) [.int .i64 (a), .int .i64 (b)] := by (repeat' (first | (with_reducible assumption) | (with_reducible refine Row.new' _ _ _ (by first | rfl | (simp; done) | omega)) | (with_reducible first | refine Row.alloc ?_ _ | refine Row.drew ?_ | refine Row.step ?_ (by assumption) | refine Row.drewN ?_ _) | (with_reducible refine Row.set2' ?_ _ _; first | exact ⟨_, _, by assumption⟩ | exact ⟨_, _, Row.alloc (by assumption) _⟩) | (with_reducible refine Row.other ?_ (by first | omega | (simp; omega)) _)))
 have c_p_0_1 := R_p_1.cell 0 rfl
 have c_p_1_1 := R_p_1.cell 1 rfl
 have l_p_1 := R_p_1.lt
 have R_q_1 : Row w1 (w.heap.size + 1) [.int .i64 (c), .int .i64 (d)] := by (repeat' (first | (with_reducible assumption) | (with_reducible refine Row.new' _ _ _ (by first | rfl | (simp; done) | omega)) | (with_reducible first | refine Row.alloc ?_ _ | refine Row.drew ?_ | refine Row.step ?_ (by assumption) | refine Row.drewN ?_ _) | (with_reducible refine Row.set2' ?_ _ _; first | exact ⟨_, _, by assumption⟩ | exact ⟨_, _, Row.alloc (by assumption) _⟩) | (with_reducible refine Row.other ?_ (by first | omega | (simp; omega)) _)))
 have c_q_0_1 := R_q_1.cell 0 rfl
 have c_q_1_1 := R_q_1.cell 1 rfl
 have l_q_1 := R_q_1.lt
 have R_o_1 : Row w1 (w.heap.size + 2) [.int .i64 (0), .int .i64 (0)] := by (repeat' (first | (with_reducible assumption) | (with_reducible refine Row.new' _ _ _ (by first | rfl | (simp; done) | omega)) | (with_reducible first | refine Row.alloc ?_ _ | refine Row.drew ?_ | refine Row.step ?_ (by assumption) | refine Row.drewN ?_ _) | (with_reducible refine Row.set2' ?_ _ _; first | exact ⟨_, _, by assumption⟩ | exact ⟨_, _, Row.alloc (by assumption) _⟩) | (with_reducible refine Row.other ?_ (by first | omega | (simp; omega)) _)))
 have c_o_0_1 := R_o_1.cell 0 rfl
 have c_o_1_1 := R_o_1.cell 1 rfl
 have z_o_0_1 := R_o_1.frozen 0
 have z_o_1_1 := R_o_1.frozen 1
 have l_o_1 := R_o_1.lt
 have HB1 : Below w.heap.size w w1 := by (repeat' (first | (with_reducible first | exact Below.refl _ _ | assumption | exact Bw.out (by assumption) | refine bw_alloc ?_ _ | refine bw_step ?_ (by assumption) | refine Below.alloc ?_ ?_ _ | refine Below.drew ?_ | refine below_drewN ?_ _ | refine Below.setCell ?_ ?_ _ | refine below_step ?_ (by assumption) ?_ | exact Nat.le_refl _) | omega | (simp; omega) | (simp; done)))
 go_wp2_with fail
 refine (R_truth_p _ N HN.out _).mono ?_
 rintro e w2 ⟨rfl, hb2⟩
 have R_p_2 : Row w2 (w.heap.size) [.int .i64 (a), .int .i64 (b)] := by (repeat' (first | (with_reducible assumption) | (with_reducible refine Row.new' _ _ _ (by first | rfl | (simp; done) | omega)) | (with_reducible first | refine Row.alloc ?_ _ | refine Row.drew ?_ | refine Row.step ?_ (by assumption) | refine Row.drewN ?_ _) | (with_reducible refine Row.set2' ?_ _ _; first | exact ⟨_, _, by assumption⟩ | exact ⟨_, _, Row.alloc (by assumption) _⟩) | (with_reducible refine Row.other ?_ (by first | omega | (simp; omega)) _)))
 have c_p_0_2 := R_p_2.cell 0 rfl
 have c_p_1_2 := R_p_2.cell 1 rfl
 have l_p_2 := R_p_2.lt
 have R_q_2 : Row w2 (w.heap.size + 1) [.int .i64 (c), .int .i64 (d)] := by (repeat' (first | (with_reducible assumption) | (with_reducible refine Row.new' _ _ _ (by first | rfl | (simp; done) | omega)) | (with_reducible first | refine Row.alloc ?_ _ | refine Row.drew ?_ | refine Row.step ?_ (by assumption) | refine Row.drewN ?_ _) | (with_reducible refine Row.set2' ?_ _ _; first | exact ⟨_, _, by assumption⟩ | exact ⟨_, _, Row.alloc (by assumption) _⟩) | (with_reducible refine Row.other ?_ (by first | omega | (simp; omega)) _)))
 have c_q_0_2 := R_q_2.cell 0 rfl
 have c_q_1_2 := R_q_2.cell 1 rfl
 have l_q_2 := R_q_2.lt
 have R_o_2 : Row w2 (w.heap.size + 2) [.int .i64 (0), .int .i64 (0)] := by (repeat' (first | (with_reducible assumption) | (with_reducible refine Row.new' _ _ _ (by first | rfl | (simp; done) | omega)) | (with_reducible first | refine Row.alloc ?_ _ | refine Row.drew ?_ | refine Row.step ?_ (by assumption) | refine Row.drewN ?_ _) | (with_reducible refine Row.set2' ?_ _ _; first | exact ⟨_, _, by assumption⟩ | exact ⟨_, _, Row.alloc (by assumption) _⟩) | (with_reducible refine Row.other ?_ (by first | omega | (simp; omega)) _)))
 have c_o_0_2 := R_o_2.cell 0 rfl
 have c_o_1_2 := R_o_2.cell 1 rfl
 have z_o_0_2 := R_o_2.frozen 0
 have z_o_1_2 := R_o_2.frozen 1
 have l_o_2 := R_o_2.lt
 have HB2 : Below w.heap.size w w2 := by (repeat' (first | (with_reducible first | exact Below.refl _ _ | assumption | exact Bw.out (by assumption) | refine bw_alloc ?_ _ | refine bw_step ?_ (by assumption) | refine Below.alloc ?_ ?_ _ | refine Below.drew ?_ | refine below_drewN ?_ _ | refine Below.setCell ?_ ?_ _ | refine below_step ?_ (by assumption) ?_ | exact Nat.le_refl _) | omega | (simp; omega) | (simp; done)))
 clear R_p_1 c_p_0_1 c_p_1_1 R_q_1 c_q_0_1 c_q_1_1 R_o_1 c_o_0_1 c_o_1_1 z_o_0_1 z_o_1_1 hb1 HB1
 go_wp2_with fail
 have RP := R_o_2.set2 (.int .i64 (N)) (.int .i64 (1))
 have q0 := RP.cell 0 rfl
 have q1 := RP.cell 1 rfl
 refine bodyPost_ret (v := .tuple #[.agg #[.int .i64 (N), .int .i64 (1)], .int .i64 (0)]) (by simp [results, Tryz.results20, go_sem, q0, q1]) rfl ⟨rfl, by (repeat' (first | (with_reducible first | exact Below.refl _ _ | assumption | exact Bw.out (by assumption) | refine bw_alloc ?_ _ | refine bw_step ?_ (by assumption) | refine Below.alloc ?_ ?_ _ | refine Below.drew ?_ | refine below_drewN ?_ _ | refine Below.setCell ?_ ?_ _ | refine below_step ?_ (by assumption) ?_ | exact Nat.le_refl _) | omega | (simp; omega) | (simp; done)))⟩
set_option maxRecDepth 100000 in
set_option maxHeartbeats 1600000 in
theorem R_apply_12 (a b c d N D E : Int) (h : ap2 12 a b c d = (N, D, E)) (w : World) :
  Calls Tryz.prog 20 #[.int .i64 12, .agg #[.int .i64 a, .int .i64 b], .agg #[.int .i64 c, .int .i64 d]] w fun e w' => e = .returned (.tuple #[.agg #[.int .i64 N, .int .i64 D], .int .i64 E]) ∧ Below w.heap.size w w' := by
 have h' : ((trI (decide (cmpV a b c d = 0)), 1, 0) : V3) = (N, D, E) := h
 clear h
 simp only [Prod.mk.injEq] at h'
 obtain ⟨hN, rfl, rfl⟩ := h'
 obtain ⟨C, hC⟩ : ∃ C, cmpV a b c d = C := ⟨_, rfl⟩
 obtain ⟨F, hF⟩ : ∃ C, cmpE a b c d = C := ⟨_, rfl⟩
 rw [hC] at hN
 have HN : Hid (trI ((C == 0)) = N) := by
  show _ = _
  rw [← hN]
  all_goals first | rfl | (congr 1)
 have HC := Lib.hid hC
 have HF := Lib.hid hF
 clear hC hF hN
 go_enter Tryz.func20, Tryz.ntmps20
 go_wp2_with fail
 refine (R_compare_p a b c d C F HC.out HF.out _).mono ?_
 rintro e w1 ⟨rfl, hb1⟩
 have R_p_1 : Row w1 (w.heap.size) [.int .i64 (a), .int .i64 (b)] := by (repeat' (first | (with_reducible assumption) | (with_reducible refine Row.new' _ _ _ (by first | rfl | (simp; done) | omega)) | (with_reducible first | refine Row.alloc ?_ _ | refine Row.drew ?_ | refine Row.step ?_ (by assumption) | refine Row.drewN ?_ _) | (with_reducible refine Row.set2' ?_ _ _; first | exact ⟨_, _, by assumption⟩ | exact ⟨_, _, Row.alloc (by assumption) _⟩) | (with_reducible refine Row.other ?_ (by first | omega | (simp; omega)) _)))
 have c_p_0_1 := R_p_1.cell 0 rfl
 have c_p_1_1 := R_p_1.cell 1 rfl
 have l_p_1 := R_p_1.lt
 have R_q_1 : Row w1 (w.heap.size + 1) [.int .i64 (c), .int .i64 (d)] := by (repeat' (first | (with_reducible assumption) | (with_reducible refine Row.new' _ _ _ (by first | rfl | (simp; done) | omega)) | (with_reducible first | refine Row.alloc ?_ _ | refine Row.drew ?_ | refine Row.step ?_ (by assumption) | refine Row.drewN ?_ _) | (with_reducible refine Row.set2' ?_ _ _; first | exact ⟨_, _, by assumption⟩ | exact ⟨_, _, Row.alloc (by assumption) _⟩) | (with_reducible refine Row.other ?_ (by first | omega | (simp; omega)) _)))
 have c_q_0_1 := R_q_1.cell 0 rfl
 have c_q_1_1 := R_q_1.cell 1 rfl
 have l_q_1 := R_q_1.lt
 have R_o_1 : Row w1 (w.heap.size + 2) [.int .i64 (0), .int .i64 (0)] := by (repeat' (first | (with_reducible assumption) | (with_reducible refine Row.new' _ _ _ (by first | rfl | (simp; done) | omega)) | (with_reducible first | refine Row.alloc ?_ _ | refine Row.drew ?_ | refine Row.step ?_ (by assumption) | refine Row.drewN ?_ _) | (with_reducible refine Row.set2' ?_ _ _; first | exact ⟨_, _, by assumption⟩ | exact ⟨_, _, Row.alloc (by assumption) _⟩) | (with_reducible refine Row.other ?_ (by first | omega | (simp; omega)) _)))
 have c_o_0_1 := R_o_1.cell 0 rfl
 have c_o_1_1 := R_o_1.cell 1 rfl
 have z_o_0_1 := R_o_1.frozen 0
 have z_o_1_1 := R_o_1.frozen 1
 have l_o_1 := R_o_1.lt
 have HB1 : Below w.heap.size w w1 := by (repeat' (first | (with_reducible first | exact Below.refl _ _ | assumption | exact Bw.out (by assumption) | refine bw_alloc ?_ _ | refine bw_step ?_ (by assumption) | refine Below.alloc ?_ ?_ _ | refine Below.drew ?_ | refine below_drewN ?_ _ | refine Below.setCell ?_ ?_ _ | refine below_step ?_ (by assumption) ?_ | exact Nat.le_refl _) | omega | (simp; omega) | (simp; done)))
 go_wp2_with fail
 refine (R_truth_p _ N HN.out _).mono ?_
 rintro e w2 ⟨rfl, hb2⟩
 have R_p_2 : Row w2 (w.heap.size) [.int .i64 (a), .int .i64 (b)] := by (repeat' (first | (with_reducible assumption) | (with_reducible refine Row.new' _ _ _ (by first | rfl | (simp; done) | omega)) | (with_reducible first | refine Row.alloc ?_ _ | refine Row.drew ?_ | refine Row.step ?_ (by assumption) | refine Row.drewN ?_ _) | (with_reducible refine Row.set2' ?_ _ _; first | exact ⟨_, _, by assumption⟩ | exact ⟨_, _, Row.alloc (by assumption) _⟩) | (with_reducible refine Row.other ?_ (by first | omega | (simp; omega)) _)))
 have c_p_0_2 := R_p_2.cell 0 rfl
 have c_p_1_2 := R_p_2.cell 1 rfl
 have l_p_2 := R_p_2.lt
 have R_q_2 : Row w2 (w.heap.size + 1) [.int .i64 (c), .int .i64 (d)] := by (repeat' (first | (with_reducible assumption) | (with_reducible refine Row.new' _ _ _ (by first | rfl | (simp; done) | omega)) | (with_reducible first | refine Row.alloc ?_ _ | refine Row.drew ?_ | refine Row.step ?_ (by assumption) | refine Row.drewN ?_ _) | (with_reducible refine Row.set2' ?_ _ _; first | exact ⟨_, _, by assumption⟩ | exact ⟨_, _, Row.alloc (by assumption) _⟩) | (with_reducible refine Row.other ?_ (by first | omega | (simp; omega)) _)))
 have c_q_0_2 := R_q_2.cell 0 rfl
 have c_q_1_2 := R_q_2.cell 1 rfl
 have l_q_2 := R_q_2.lt
 have R_o_2 : Row w2 (w.heap.size + 2) [.int .i64 (0), .int .i64 (0)] := by (repeat' (first | (with_reducible assumption) | (with_reducible refine Row.new' _ _ _ (by first | rfl | (simp; done) | omega)) | (with_reducible first | refine Row.alloc ?_ _ | refine Row.drew ?_ | refine Row.step ?_ (by assumption) | refine Row.drewN ?_ _) | (with_reducible refine Row.set2' ?_ _ _; first | exact ⟨_, _, by assumption⟩ | exact ⟨_, _, Row.alloc (by assumption) _⟩) | (with_reducible refine Row.other ?_ (by first | omega | (simp; omega)) _)))
 have c_o_0_2 := R_o_2.cell 0 rfl
 have c_o_1_2 := R_o_2.cell 1 rfl
 have z_o_0_2 := R_o_2.frozen 0
 have z_o_1_2 := R_o_2.frozen 1
 have l_o_2 := R_o_2.lt
 have HB2 : Below w.heap.size w w2 := by (repeat' (first | (with_reducible first | exact Below.refl _ _ | assumption | exact Bw.out (by assumption) | refine bw_alloc ?_ _ | refine bw_step ?_ (by assumption) | refine Below.alloc ?_ ?_ _ | refine Below.drew ?_ | refine below_drewN ?_ _ | refine Below.setCell ?_ ?_ _ | refine below_step ?_ (by assumption) ?_ | exact Nat.le_refl _) | omega | (simp; omega) | (simp; done)))
 clear R_p_1 c_p_0_1 c_p_1_1 R_q_1 c_q_0_1 c_q_1_1 R_o_1 c_o_0_1 c_o_1_1 z_o_0_1 z_o_1_1 hb1 HB1
 go_wp2_with fail
 have RP := R_o_2.set2 (.int .i64 (N)) (.int .i64 (1))
 have q0 := RP.cell 0 rfl
 have q1 := RP.cell 1 rfl
 refine bodyPost_ret (v := .tuple #[.agg #[.int .i64 (N), .int .i64 (1)], .int .i64 (0)]) (by simp [results, Tryz.results20, go_sem, q0, q1]) rfl ⟨rfl, by (repeat' (first | (with_reducible first | exact Below.refl _ _ | assumption | exact Bw.out (by assumption) | refine bw_alloc ?_ _ | refine bw_step ?_ (by assumption) | refine Below.alloc ?_ ?_ _ | refine Below.drew ?_ | refine below_drewN ?_ _ | refine Below.setCell ?_ ?_ _ | refine below_step ?_ (by assumption) ?_ | exact Nat.le_refl _) | omega | (simp; omega) | (simp; done)))⟩
set_option maxRecDepth 100000 in
set_option maxHeartbeats 1600000 in
theorem R_apply_13 (a b c d N D E : Int) (h : ap2 13 a b c d = (N, D, E)) (w : World) :
  Calls Tryz.prog 20 #[.int .i64 13, .agg #[.int .i64 a, .int .i64 b], .agg #[.int .i64 c, .int .i64 d]] w fun e w' => e = .returned (.tuple #[.agg #[.int .i64 N, .int .i64 D], .int .i64 E]) ∧ Below w.heap.size w w' := by
 have h' : ((trI (Bool.and (decide (a = 1)) (decide (c = 1))), 1, 0) : V3) = (N, D, E) := h
 clear h
 simp only [Prod.mk.injEq] at h'
 obtain ⟨hN, rfl, rfl⟩ := h'
 by_cases h1 : a = 1
 ·
  have h1' : (a == 1) = true := by simpa using h1
  rw [show (Bool.and (decide (a = 1)) (decide (c = 1))) = (c == 1) by first | (simp [h1]; done) | (simp [h1]; rfl)] at hN
  clear h1
  have HN : Hid (trI (c == 1) = N) := hN
  clear hN
  obtain ⟨C, hC⟩ : ∃ C, cmpV a b c d = C := ⟨_, rfl⟩
  obtain ⟨F, hF⟩ : ∃ C, cmpE a b c d = C := ⟨_, rfl⟩
  have HC := Lib.hid hC
  have HF := Lib.hid hF
  clear hC hF
  go_enter Tryz.func20, Tryz.ntmps20
  go_wp2_with fail
  refine (R_compare_p a b c d C F HC.out HF.out _).mono ?_
  rintro e w1 ⟨rfl, hb1⟩
  have R_p_1 : Row w1 (w.heap.size) [.int .i64 (a), .int .i64 (b)] := by (repeat' (first | (with_reducible assumption) | (with_reducible refine Row.new' _ _ _ (by first | rfl | (simp; done) | omega)) | (with_reducible first | refine Row.alloc ?_ _ | refine Row.drew ?_ | refine Row.step ?_ (by assumption) | refine Row.drewN ?_ _) | (with_reducible refine Row.set2' ?_ _ _; first | exact ⟨_, _, by assumption⟩ | exact ⟨_, _, Row.alloc (by assumption) _⟩) | (with_reducible refine Row.other ?_ (by first | omega | (simp; omega)) _)))
  have c_p_0_1 := R_p_1.cell 0 rfl
  have c_p_1_1 := R_p_1.cell 1 rfl
  have l_p_1 := R_p_1.lt
  have R_q_1 : Row w1 (w.heap.size + 1) [.int .i64 (c), .int .i64 (d)] := by (repeat' (first | (with_reducible assumption) | (with_reducible refine Row.new' _ _ _ (by first | rfl | (simp; done) | omega)) | (with_reducible first | refine Row.alloc ?_ _ | refine Row.drew ?_ | refine Row.step ?_ (by assumption) | refine Row.drewN ?_ _) | (with_reducible refine Row.set2' ?_ _ _; first | exact ⟨_, _, by assumption⟩ | exact ⟨_, _, Row.alloc (by assumption) _⟩) | (with_reducible refine Row.other ?_ (by first | omega | (simp; omega)) _)))
  have c_q_0_1 := R_q_1.cell 0 rfl
  have c_q_1_1 := R_q_1.cell 1 rfl
  have l_q_1 := R_q_1.lt
  have R_o_1 : Row w1 (w.heap.size + 2) [.int .i64 (0), .int .i64 (0)] := by (repeat' (first | (with_reducible assumption) | (with_reducible refine Row.new' _ _ _ (by first | rfl | (simp; done) | omega)) | (with_reducible first | refine Row.alloc ?_ _ | refine Row.drew ?_ | refine Row.step ?_ (by assumption) | refine Row.drewN ?_ _) | (with_reducible refine Row.set2' ?_ _ _; first | exact ⟨_, _, by assumption⟩ | exact ⟨_, _, Row.alloc (by assumption) _⟩) | (with_reducible refine Row.other ?_ (by first | omega | (simp; omega)) _)))
  have c_o_0_1 := R_o_1.cell 0 rfl
  have c_o_1_1 := R_o_1.cell 1 rfl
  have z_o_0_1 := R_o_1.frozen 0
  have z_o_1_1 := R_o_1.frozen 1
  have l_o_1 := R_o_1.lt
  have HB1 : Below w.heap.size w w1 := by (repeat' (first | (with_reducible first | exact Below.refl _ _ | assumption | exact Bw.out (by assumption) | refine bw_alloc ?_ _ | refine bw_step ?_ (by assumption) | refine Below.alloc ?_ ?_ _ | refine Below.drew ?_ | refine below_drewN ?_ _ | refine Below.setCell ?_ ?_ _ | refine below_step ?_ (by assumption) ?_ | exact Nat.le_refl _) | omega | (simp; omega) | (simp; done)))
  go_wp2_with fail
  refine (R_truth_p (c == 1) N HN.out _).mono ?_
  rintro e w2 ⟨rfl, hb2⟩
  have R_p_2 : Row w2 (w.heap.size) [.int .i64 (a), .int .i64 (b)] := by (repeat' (first | (with_reducible assumption) | (with_reducible refine Row.new' _ _ _ (by first | rfl | (simp; done) | omega)) | (with_reducible first | refine Row.alloc ?_ _ | refine Row.drew ?_ | refine Row.step ?_ (by assumption) | refine Row.drewN ?_ _) | (with_reducible refine Row.set2' ?_ _ _; first | exact ⟨_, _, by assumption⟩ | exact ⟨_, _, Row.alloc (by assumption) _⟩) | (with_reducible refine Row.other ?_ (by first | omega | (simp; omega)) _)))
  have c_p_0_2 := R_p_2.cell 0 rfl
  have c_p_1_2 := R_p_2.cell 1 rfl
  have l_p_2 := R_p_2.lt
  have R_q_2 : Row w2 (w.heap.size + 1) [.int .i64 (c), .int .i64 (d)] := by (repeat' (first | (with_reducible assumption) | (with_reducible refine Row.new' _ _ _ (by first | rfl | (simp; done) | omega)) | (with_reducible first | refine Row.alloc ?_ _ | refine Row.drew ?_ | refine Row.step ?_ (by assumption) | refine Row.drewN ?_ _) | (with_reducible refine Row.set2' ?_ _ _; first | exact ⟨_, _, by assumption⟩ | exact ⟨_, _, Row.alloc (by assumption) _⟩) | (with_reducible refine Row.other ?_ (by first | omega | (simp; omega)) _)))
  have c_q_0_2 := R_q_2.cell 0 rfl
  have c_q_1_2 := R_q_2.cell 1 rfl
  have l_q_2 := R_q_2.lt
  have R_o_2 : Row w2 (w.heap.size + 2) [.int .i64 (0), .int .i64 (0)] := by (repeat' (first | (with_reducible assumption) | (with_reducible refine Row.new' _ _ _ (by first | rfl | (simp; done) | omega)) | (with_reducible first | refine Row.alloc ?_ _ | refine Row.drew ?_ | refine Row.step ?_ (by assumption) | refine Row.drewN ?_ _) | (with_reducible refine Row.set2' ?_ _ _; first | exact ⟨_, _, by assumption⟩ | exact ⟨_, _, Row.alloc (by assumption) _⟩) | (with_reducible refine Row.other ?_ (by first | omega | (simp; omega)) _)))
  have c_o_0_2 := R_o_2.cell 0 rfl
  have c_o_1_2 := R_o_2.cell 1 rfl
  have z_o_0_2 := R_o_2.frozen 0
  have z_o_1_2 := R_o_2.frozen 1
  have l_o_2 := R_o_2.lt
  have HB2 : Below w.heap.size w w2 := by (repeat' (first | (with_reducible first | exact Below.refl _ _ | assumption | exact Bw.out (by assumption) | refine bw_alloc ?_ _ | refine bw_step ?_ (by assumption) | refine Below.alloc ?_ ?_ _ | refine Below.drew ?_ | refine below_drewN ?_ _ | refine Below.setCell ?_ ?_ _ | refine below_step ?_ (by assumption) ?_ | exact Nat.le_refl _) | omega | (simp; omega) | (simp; done)))
  clear R_p_1 c_p_0_1 c_p_1_1 R_q_1 c_q_0_1 c_q_1_1 R_o_1 c_o_0_1 c_o_1_1 z_o_0_1 z_o_1_1 hb1 HB1
  go_wp2_with fail
  have RP := R_o_2.set2 (.int .i64 (N)) (.int .i64 (1))
  have q0 := RP.cell 0 rfl
  have q1 := RP.cell 1 rfl
  refine bodyPost_ret (v := .tuple #[.agg #[.int .i64 (N), .int .i64 (1)], .int .i64 (0)]) (by simp [results, Tryz.results20, go_sem, q0, q1]) rfl ⟨rfl, by (repeat' (first | (with_reducible first | exact Below.refl _ _ | assumption | exact Bw.out (by assumption) | refine bw_alloc ?_ _ | refine bw_step ?_ (by assumption) | refine Below.alloc ?_ ?_ _ | refine Below.drew ?_ | refine below_drewN ?_ _ | refine Below.setCell ?_ ?_ _ | refine below_step ?_ (by assumption) ?_ | exact Nat.le_refl _) | omega | (simp; omega) | (simp; done)))⟩
 ·
  have h1' : (a == 1) = false := by simpa using h1
  rw [show (Bool.and (decide (a = 1)) (decide (c = 1))) = false by first | (simp [h1]; done) | (simp [h1]; rfl)] at hN
  clear h1
  have HN : Hid (trI false = N) := hN
  clear hN
  obtain ⟨C, hC⟩ : ∃ C, cmpV a b c d = C := ⟨_, rfl⟩
  obtain ⟨F, hF⟩ : ∃ C, cmpE a b c d = C := ⟨_, rfl⟩
  have HC := Lib.hid hC
  have HF := Lib.hid hF
  clear hC hF
  go_enter Tryz.func20, Tryz.ntmps20
  go_wp2_with fail
  refine (R_compare_p a b c d C F HC.out HF.out _).mono ?_
  rintro e w1 ⟨rfl, hb1⟩
  have R_p_1 : Row w1 (w.heap.size) [.int .i64 (a), .int .i64 (b)] := by (repeat' (first | (with_reducible assumption) | (with_reducible refine Row.new' _ _ _ (by first | rfl | (simp; done) | omega)) | (with_reducible first | refine Row.alloc ?_ _ | refine Row.drew ?_ | refine Row.step ?_ (by assumption) | refine Row.drewN ?_ _) | (with_reducible refine Row.set2' ?_ _ _; first | exact ⟨_, _, by assumption⟩ | exact ⟨_, _, Row.alloc (by assumption) _⟩) | (with_reducible refine Row.other ?_ (by first | omega | (simp; omega)) _)))
  have c_p_0_1 := R_p_1.cell 0 rfl
  have c_p_1_1 := R_p_1.cell 1 rfl
  have l_p_1 := R_p_1.lt
  have R_q_1 : Row w1 (w.heap.size + 1) [.int .i64 (c), .int .i64 (d)] := by (repeat' (first | (with_reducible assumption) | (with_reducible refine Row.new' _ _ _ (by first | rfl | (simp; done) | omega)) | (with_reducible first | refine Row.alloc ?_ _ | refine Row.drew ?_ | refine Row.step ?_ (by assumption) | refine Row.drewN ?_ _) | (with_reducible refine Row.set2' ?_ _ _; first | exact ⟨_, _, by assumption⟩ | exact ⟨_, _, Row.alloc (by assumption) _⟩) | (with_reducible refine Row.other ?_ (by first | omega | (simp; omega)) _)))
  have c_q_0_1 := R_q_1.cell 0 rfl
  have c_q_1_1 := R_q_1.cell 1 rfl
  have l_q_1 := R_q_1.lt
  have R_o_1 : Row w1 (w.heap.size + 2) [.int .i64 (0), .int .i64 (0)] := by (repeat' (first | (with_reducible assumption) | (with_reducible refine Row.new' _ _ _ (by first | rfl | (simp; done) | omega)) | (with_reducible first | refine Row.alloc ?_ _ | refine Row.drew ?_ | refine Row.step ?_ (by assumption) | refine Row.drewN ?_ _) | (with_reducible refine Row.set2' ?_ _ _; first | exact ⟨_, _, by assumption⟩ | exact ⟨_, _, Row.alloc (by assumption) _⟩) | (with_reducible refine Row.other ?_ (by first | omega | (simp; omega)) _)))
  have c_o_0_1 := R_o_1.cell 0 rfl
  have c_o_1_1 := R_o_1.cell 1 rfl
  have z_o_0_1 := R_o_1.frozen 0
  have z_o_1_1 := R_o_1.frozen 1
  have l_o_1 := R_o_1.lt
  have HB1 : Below w.heap.size w w1 := by (repeat' (first | (with_reducible first | exact Below.refl _ _ | assumption | exact Bw.out (by assumption) | refine bw_alloc ?_ _ | refine bw_step ?_ (by assumption) | refine Below.alloc ?_ ?_ _ | refine Below.drew ?_ | refine below_drewN ?_ _ | refine Below.setCell ?_ ?_ _ | refine below_step ?_ (by assumption) ?_ | exact Nat.le_refl _) | omega | (simp; omega) | (simp; done)))
  go_wp2_with fail
  refine (R_truth_p false N HN.out _).mono ?_
  rintro e w2 ⟨rfl, hb2⟩
  have R_p_2 : Row w2 (w.heap.size) [.int .i64 (a), .int .i64 (b)] := by (repeat' (first | (with_reducible assumption) | (with_reducible refine Row.new' _ _ _ (by first | rfl | (simp; done) | omega)) | (with_reducible first | refine Row.alloc ?_ _ | refine Row.drew ?_ | refine Row.step ?_ (by assumption) | refine Row.drewN ?_ _) | (with_reducible refine Row.set2' ?_ _ _; first | exact ⟨_, _, by assumption⟩ | exact ⟨_, _, Row.alloc (by assumption) _⟩) | (with_reducible refine Row.other ?_ (by first | omega | (simp; omega)) _)))
  have c_p_0_2 := R_p_2.cell 0 rfl
  have c_p_1_2 := R_p_2.cell 1 rfl
  have l_p_2 := R_p_2.lt
  have R_q_2 : Row w2 (w.heap.size + 1) [.int .i64 (c), .int .i64 (d)] := by (repeat' (first | (with_reducible assumption) | (with_reducible refine Row.new' _ _ _ (by first | rfl | (simp; done) | omega)) | (with_reducible first | refine Row.alloc ?_ _ | refine Row.drew ?_ | refine Row.step ?_ (by assumption) | refine Row.drewN ?_ _) | (with_reducible refine Row.set2' ?_ _ _; first | exact ⟨_, _, by assumption⟩ | exact ⟨_, _, Row.alloc (by assumption) _⟩) | (with_reducible refine Row.other ?_ (by first | omega | (simp; omega)) _)))
  have c_q_0_2 := R_q_2.cell 0 rfl
  have c_q_1_2 := R_q_2.cell 1 rfl
  have l_q_2 := R_q_2.lt
  have R_o_2 : Row w2 (w.heap.size + 2) [.int .i64 (0), .int .i64 (0)] := by (repeat' (first | (with_reducible assumption) | (with_reducible refine Row.new' _ _ _ (by first | rfl | (simp; done) | omega)) | (with_reducible first | refine Row.alloc ?_ _ | refine Row.drew ?_ | refine Row.step ?_ (by assumption) | refine Row.drewN ?_ _) | (with_reducible refine Row.set2' ?_ _ _; first | exact ⟨_, _, by assumption⟩ | exact ⟨_, _, Row.alloc (by assumption) _⟩) | (with_reducible refine Row.other ?_ (by first | omega | (simp; omega)) _)))
  have c_o_0_2 := R_o_2.cell 0 rfl
  have c_o_1_2 := R_o_2.cell 1 rfl
  have z_o_0_2 := R_o_2.frozen 0
  have z_o_1_2 := R_o_2.frozen 1
  have l_o_2 := R_o_2.lt
  have HB2 : Below w.heap.size w w2 := by (repeat' (first | (with_reducible first | exact Below.refl _ _ | assumption | exact Bw.out (by assumption) | refine bw_alloc ?_ _ | refine bw_step ?_ (by assumption) | refine Below.alloc ?_ ?_ _ | refine Below.drew ?_ | refine below_drewN ?_ _ | refine Below.setCell ?_ ?_ _ | refine below_step ?_ (by assumption) ?_ | exact Nat.le_refl _) | omega | (simp; omega) | (simp; done)))
  clear R_p_1 c_p_0_1 c_p_1_1 R_q_1 c_q_0_1 c_q_1_1 R_o_1 c_o_0_1 c_o_1_1 z_o_0_1 z_o_1_1 hb1 HB1
  go_wp2_with fail
  have RP := R_o_2.set2 (.int .i64 (N)) (.int .i64 (1))
  have q0 := RP.cell 0 rfl
  have q1 := RP.cell 1 rfl
  refine bodyPost_ret (v := .tuple #[.agg #[.int .i64 (N), .int .i64 (1)], .int .i64 (0)]) (by simp [results, Tryz.results20, go_sem, q0, q1]) rfl ⟨rfl, by (repeat' (first | (with_reducible first | exact Below.refl _ _ | assumption | exact Bw.out (by assumption) | refine bw_alloc ?_ _ | refine bw_step ?_ (by assumption) | refine Below.alloc ?_ ?_ _ | refine Below.drew ?_ | refine below_drewN ?_ _ | refine Below.setCell ?_ ?_ _ | refine below_step ?_ (by assumption) ?_ | exact Nat.le_refl _) | omega | (simp; omega) | (simp; done)))⟩
set_option maxRecDepth 100000 in
set_option maxHeartbeats 1600000 in
theorem R_apply_14 (a b c d N D E : Int) (h : ap2 14 a b c d = (N, D, E)) (w : World) :
  Calls Tryz.prog 20 #[.int .i64 14, .agg #[.int .i64 a, .int .i64 b], .agg #[.int .i64 c, .int .i64 d]] w fun e w' => e = .returned (.tuple #[.agg #[.int .i64 N, .int .i64 D], .int .i64 E]) ∧ Below w.heap.size w w' := by
 have h' : ((trI (Bool.or (decide (a = 1)) (decide (c = 1))), 1, 0) : V3) = (N, D, E) := h
 clear h
 simp only [Prod.mk.injEq] at h'
 obtain ⟨hN, rfl, rfl⟩ := h'
 by_cases h1 : a = 1
 ·
  have h1' : (a == 1) = true := by simpa using h1
  rw [show (Bool.or (decide (a = 1)) (decide (c = 1))) = true by first | (simp [h1]; done) | (simp [h1]; rfl)] at hN
  clear h1
  have HN : Hid (trI true = N) := hN
  clear hN
  obtain ⟨C, hC⟩ : ∃ C, cmpV a b c d = C := ⟨_, rfl⟩
  obtain ⟨F, hF⟩ : ∃ C, cmpE a b c d = C := ⟨_, rfl⟩
  have HC := Lib.hid hC
  have HF := Lib.hid hF
  clear hC hF
  go_enter Tryz.func20, Tryz.ntmps20
  go_wp2_with fail
  refine (R_compare_p a b c d C F HC.out HF.out _).mono ?_
  rintro e w1 ⟨rfl, hb1⟩
  have R_p_1 : Row w1 (w.heap.size) [.int .i64 (a), .int .i64 (b)] := by (repeat' (first | (with_reducible assumption) | (with_reducible refine Row.new' _ _ _ (by first | rfl | (simp; done) | omega)) | (with_reducible first | refine Row.alloc ?_ _ | refine Row.drew ?_ | refine Row.step ?_ (by assumption) | refine Row.drewN ?_ _) | (with_reducible refine Row.set2' ?_ _ _; first | exact ⟨_, _, by assumption⟩ | exact ⟨_, _, Row.alloc (by assumption) _⟩) | (with_reducible refine Row.other ?_ (by first | omega | (simp; omega)) _)))
  have c_p_0_1 := R_p_1.cell 0 rfl
  have c_p_1_1 := R_p_1.cell 1 rfl
  have l_p_1 := R_p_1.lt
  have R_q_1 : Row w1 (w.heap.size + 1) [.int .i64 (c), .int .i64 (d)] := by (repeat' (first | (with_reducible assumption) | (with_reducible refine Row.new' _ _ _ (by first | rfl | (simp; done) | omega)) | (with_reducible first | refine Row.alloc ?_ _ | refine Row.drew ?_ | refine Row.step ?_ (by assumption) | refine Row.drewN ?_ _) | (with_reducible refine Row.set2' ?_ _ _; first | exact ⟨_, _, by assumption⟩ | exact ⟨_, _, Row.alloc (by assumption) _⟩) | (with_reducible refine Row.other ?_ (by first | omega | (simp; omega)) _)))
  have c_q_0_1 := R_q_1.cell 0 rfl
  have c_q_1_1 := R_q_1.cell 1 rfl
  have l_q_1 := R_q_1.lt
  have R_o_1 : Row w1 (w.heap.size + 2) [.int .i64 (0), .int .i64 (0)] := by (repeat' (first | (with_reducible assumption) | (with_reducible refine Row.new' _ _ _ (by first | rfl | (simp; done) | omega)) | (with_reducible first | refine Row.alloc ?_ _ | refine Row.drew ?_ | refine Row.step ?_ (by assumption) | refine Row.drewN ?_ _) | (with_reducible refine Row.set2' ?_ _ _; first | exact ⟨_, _, by assumption⟩ | exact ⟨_, _, Row.alloc (by assumption) _⟩) | (with_reducible refine Row.other ?_ (by first | omega | (simp; omega)) _)))
  have c_o_0_1 := R_o_1.cell 0 rfl
  have c_o_1_1 := R_o_1.cell 1 rfl
  have z_o_0_1 := R_o_1.frozen 0
  have z_o_1_1 := R_o_1.frozen 1
  have l_o_1 := R_o_1.lt
  have HB1 : Below w.heap.size w w1 := by (repeat' (first | (with_reducible first | exact Below.refl _ _ | assumption | exact Bw.out (by assumption) | refine bw_alloc ?_ _ | refine bw_step ?_ (by assumption) | refine Below.alloc ?_ ?_ _ | refine Below.drew ?_ | refine below_drewN ?_ _ | refine Below.setCell ?_ ?_ _ | refine below_step ?_ (by assumption) ?_ | exact Nat.le_refl _) | omega | (simp; omega) | (simp; done)))
  go_wp2_with fail
  refine (R_truth_p true N HN.out _).mono ?_
  rintro e w2 ⟨rfl, hb2⟩
  have R_p_2 : Row w2 (w.heap.size) [.int .i64 (a), .int .i64 (b)] := by (repeat' (first | (with_reducible assumption) | (with_reducible refine Row.new' _ _ _ (by first | rfl | (simp; done) | omega)) | (with_reducible first | refine Row.alloc ?_ _ | refine Row.drew ?_ | refine Row.step ?_ (by assumption) | refine Row.drewN ?_ _) | (with_reducible refine Row.set2' ?_ _ _; first | exact ⟨_, _, by assumption⟩ | exact ⟨_, _, Row.alloc (by assumption) _⟩) | (with_reducible refine Row.other ?_ (by first | omega | (simp; omega)) _)))
  have c_p_0_2 := R_p_2.cell 0 rfl
  have c_p_1_2 := R_p_2.cell 1 rfl
  have l_p_2 := R_p_2.lt
  have R_q_2 : Row w2 (w.heap.size + 1) [.int .i64 (c), .int .i64 (d)] := by (repeat' (first | (with_reducible assumption) | (with_reducible refine Row.new' _ _ _ (by first | rfl | (simp; done) | omega)) | (with_reducible first | refine Row.alloc ?_ _ | refine Row.drew ?_ | refine Row.step ?_ (by assumption) | refine Row.drewN ?_ _) | (with_reducible refine Row.set2' ?_ _ _; first | exact ⟨_, _, by assumption⟩ | exact ⟨_, _, Row.alloc (by assumption) _⟩) | (with_reducible refine Row.other ?_ (by first | omega | (simp; omega)) _)))
  have c_q_0_2 := R_q_2.cell 0 rfl
  have c_q_1_2 := R_q_2.cell 1 rfl
  have l_q_2 := R_q_2.lt
  have R_o_2 : Row w2 (w.heap.size + 2) [.int .i64 (0), .int .i64 (0)] := by (repeat' (first | (with_reducible assumption) | (with_reducible refine Row.new' _ _ _ (by first | rfl | (simp; done) | omega)) | (with_reducible first | refine Row.alloc ?_ _ | refine Row.drew ?_ | refine Row.step ?_ (by assumption) | refine Row.drewN ?_ _) | (with_reducible refine Row.set2' ?_ _ _; first | exact ⟨_, _, by assumption⟩ | exact ⟨_, _, Row.alloc (by assumption) _⟩) | (with_reducible refine Row.other ?_ (by first | omega | (simp; omega)) _)))
  have c_o_0_2 := R_o_2.cell 0 rfl
  have c_o_1_2 := R_o_2.cell 1 rfl
  have z_o_0_2 := R_o_2.frozen 0
  have z_o_1_2 := R_o_2.frozen 1
  have l_o_2 := R_o_2.lt
  have HB2 : Below w.heap.size w w2 := by (repeat' (first | (with_reducible first | exact Below.refl _ _ | assumption | exact Bw.out (by assumption) | refine bw_alloc ?_ _ | refine bw_step ?_ (by assumption) | refine Below.alloc ?_ ?_ _ | refine Below.drew ?_ | refine below_drewN ?_ _ | refine Below.setCell ?_ ?_ _ | refine below_step ?_ (by assumption) ?_ | exact Nat.le_refl _) | omega | (simp; omega) | (simp; done)))
  clear R_p_1 c_p_0_1 c_p_1_1 R_q_1 c_q_0_1 c_q_1_1 R_o_1 c_o_0_1 c_o_1_1 z_o_0_1 z_o_1_1 hb1 HB1
  go_wp2_with fail
  have RP := R_o_2.set2 (.int .i64 (N)) (.int .i64 (1))
  have q0 := RP.cell 0 rfl
  have q1 := RP.cell 1 rfl
  refine bodyPost_ret (v := .tuple #[.agg #[.int .i64 (N), .int .i64 (1)], .int .i64 (0)]) (by simp [results, Tryz.results20, go_sem, q0, q1]) rfl ⟨rfl, by (repeat' (first | (with_reducible first | exact Below.refl _ _ | assumption | exact Bw.out (by assumption) | refine bw_alloc ?_ _ | refine bw_step ?_ (by assumption) | refine Below.alloc ?_ ?_ _ | refine Below.drew ?_ | refine below_drewN ?_ _ | refine Below.setCell ?_ ?_ _ | refine below_step ?_ (by assumption) ?_ | exact Nat.le_refl _) | omega | (simp; omega) | (simp; done)))⟩
 ·
  have h1' : (a == 1) = false := by simpa using h1
  rw [show (Bool.or (decide (a = 1)) (decide (c = 1))) = (c == 1) by first | (simp [h1]; done) | (simp [h1]; rfl)] at hN
  clear h1
  have HN : Hid (trI (c == 1) = N) := hN
  clear hN
  obtain ⟨C, hC⟩ : ∃ C, cmpV a b c d = C := ⟨_, rfl⟩
  obtain ⟨F, hF⟩ : ∃ C, cmpE a b c d = C := ⟨_, rfl⟩
  have HC := Lib.hid hC
  have HF := Lib.hid hF
  clear hC hF
  go_enter Tryz.func20, Tryz.ntmps20
  go_wp2_with fail
  refine (R_compare_p a b c d C F HC.out HF.out _).mono ?_
  rintro e w1 ⟨rfl, hb1⟩
  have R_p_1 : Row w1 (w.heap.size) [.int .i64 (a), .int .i64 (b)] := by (repeat' (first | (with_reducible assumption) | (with_reducible refine Row.new' _ _ _ (by first | rfl | (simp; done) | omega)) | (with_reducible first | refine Row.alloc ?_ _ | refine Row.drew ?_ | refine Row.step ?_ (by assumption) | refine Row.drewN ?_ _) | (with_reducible refine Row.set2' ?_ _ _; first | exact ⟨_, _, by assumption⟩ | exact ⟨_, _, Row.alloc (by assumption) _⟩) | (with_reducible refine Row.other ?_ (by first | omega | (simp; omega)) _)))
  have c_p_0_1 := R_p_1.cell 0 rfl
  have c_p_1_1 := R_p_1.cell 1 rfl
  have l_p_1 := R_p_1.lt
  have R_q_1 : Row w1 (w.heap.size + 1) [.int .i64 (c), .int .i64 (d)] := by (repeat' (first | (with_reducible assumption) | (with_reducible refine Row.new' _ _ _ (by first | rfl | (simp; done) | omega)) | (with_reducible first | refine Row.alloc ?_ _ | refine Row.drew ?_ | refine Row.step ?_ (by assumption) | refine Row.drewN ?_ _) | (with_reducible refine Row.set2' ?_ _ _; first | exact ⟨_, _, by assumption⟩ | exact ⟨_, _, Row.alloc (by assumption) _⟩) | (with_reducible refine Row.other ?_ (by first | omega | (simp; omega)) _)))
  have c_q_0_1 := R_q_1.cell 0 rfl
  have c_q_1_1 := R_q_1.cell 1 rfl
  have l_q_1 := R_q_1.lt
  have R_o_1 : Row w1 (w.heap.size + 2) [.int .i64 (0), .int .i64 (0)] := by (repeat' (first | (with_reducible assumption) | (with_reducible refine Row.new' _ _ _ (by first | rfl | (simp; done) | omega)) | (with_reducible first | refine Row.alloc ?_ _ | refine Row.drew ?_ | refine Row.step ?_ (by assumption) | refine Row.drewN ?_ _) | (with_reducible refine Row.set2' ?_ _ _; first | exact ⟨_, _, by assumption⟩ | exact ⟨_, _, Row.alloc (by assumption) _⟩) | (with_reducible refine Row.other ?_ (by first | omega | (simp; omega)) _)))
  have c_o_0_1 := R_o_1.cell 0 rfl
  have c_o_1_1 := R_o_1.cell 1 rfl
  have z_o_0_1 := R_o_1.frozen 0
  have z_o_1_1 := R_o_1.frozen 1
  have l_o_1 := R_o_1.lt
  have HB1 : Below w.heap.size w w1 := by (repeat' (first | (with_reducible first | exact Below.refl _ _ | assumption | exact Bw.out (by assumption) | refine bw_alloc ?_ _ | refine bw_step ?_ (by assumption) | refine Below.alloc ?_ ?_ _ | refine Below.drew ?_ | refine below_drewN ?_ _ | refine Below.setCell ?_ ?_ _ | refine below_step ?_ (by assumption) ?_ | exact Nat.le_refl _) | omega | (simp; omega) | (simp; done)))
  go_wp2_with fail
  refine (R_truth_p (c == 1) N HN.out _).mono ?_
  rintro e w2 ⟨rfl, hb2⟩
  have R_p_2 : Row w2 (w.heap.size) [.int .i64 (a), .int .i64 (b)] := by (repeat' (first | (with_reducible assumption) | (with_reducible refine Row.new' _ _ _ (by first | rfl | (simp; done) | omega)) | (with_reducible first | refine Row.alloc ?_ _ | refine Row.drew ?_ | refine Row.step ?_ (by assumption) | refine Row.drewN ?_ _) | (with_reducible refine Row.set2' ?_ _ _; first | exact ⟨_, _, by assumption⟩ | exact ⟨_, _, Row.alloc (by assumption) _⟩) | (with_reducible refine Row.other ?_ (by first | omega | (simp; omega)) _)))
  have c_p_0_2 := R_p_2.cell 0 rfl
  have c_p_1_2 := R_p_2.cell 1 rfl
  have l_p_2 := R_p_2.lt
  have R_q_2 : Row w2 (w.heap.size + 1) [.int .i64 (c), .int .i64 (d)] := by (repeat' (first | (with_reducible assumption) | (with_reducible refine Row.new' _ _ _ (by first | rfl | (simp; done) | omega)) | (with_reducible first | refine Row.alloc ?_ _ | refine Row.drew ?_ | refine Row.step ?_ (by assumption) | refine Row.drewN ?_ _) | (with_reducible refine Row.set2' ?_ _ _; first | exact ⟨_, _, by assumption⟩ | exact ⟨_, _, Row.alloc (by assumption) _⟩) | (with_reducible refine Row.other ?_ (by first | omega | (simp; omega)) _)))
  have c_q_0_2 := R_q_2.cell 0 rfl
  have c_q_1_2 := R_q_2.cell 1 rfl
  have l_q_2 := R_q_2.lt
  have R_o_2 : Row w2 (w.heap.size + 2) [.int .i64 (0), .int .i64 (0)] := by (repeat' (first | (with_reducible assumption) | (with_reducible refine Row.new' _ _ _ (by first | rfl | (simp; done) | omega)) | (with_reducible first | refine Row.alloc ?_ _ | refine Row.drew ?_ | refine Row.step ?_ (by assumption) | refine Row.drewN ?_ _) | (with_reducible refine Row.set2' ?_ _ _; first | exact ⟨_, _, by assumption⟩ | exact ⟨_, _, Row.alloc (by assumption) _⟩) | (with_reducible refine Row.other ?_ (by first | omega | (simp; omega)) _)))
  have c_o_0_2 := R_o_2.cell 0 rfl
  have c_o_1_2 := R_o_2.cell 1 rfl
  have z_o_0_2 := R_o_2.frozen 0
  have z_o_1_2 := R_o_2.frozen 1
  have l_o_2 := R_o_2.lt
  have HB2 : Below w.heap.size w w2 := by (repeat' (first | (with_reducible first | exact Below.refl _ _ | assumption | exact Bw.out (by assumption) | refine bw_alloc ?_ _ | refine bw_step ?_ (by assumption) | refine Below.alloc ?_ ?_ _ | refine Below.drew ?_ | refine below_drewN ?_ _ | refine Below.setCell ?_ ?_ _ | refine below_step ?_ (by assumption) ?_ | exact Nat.le_refl _) | omega | (simp; omega) | (simp; done)))
  clear R_p_1 c_p_0_1 c_p_1_1 R_q_1 c_q_0_1 c_q_1_1 R_o_1 c_o_0_1 c_o_1_1 z_o_0_1 z_o_1_1 hb1 HB1
  go_wp2_with fail
  have RP := R_o_2.set2 (.int .i64 (N)) (.int .i64 (1))
  have q0 := RP.cell 0 rfl
  have q1 := RP.cell 1 rfl
  refine bodyPost_ret (v := .tuple #[.agg #[.int .i64 (N), .int .i64 (1)], .int .i64 (0)]) (by simp [results, Tryz.results20, go_sem, q0, q1]) rfl ⟨rfl, by (repeat' (first | (with_reducible first | exact Below.refl _ _ | assumption | exact Bw.out (by assumption) | refine bw_alloc ?_ _ | refine bw_step ?_ (by assumption) | refine Below.alloc ?_ ?_ _ | refine Below.drew ?_ | refine below_drewN ?_ _ | refine Below.setCell ?_ ?_ _ | refine below_step ?_ (by assumption) ?_ | exact Nat.le_refl _) | omega | (simp; omega) | (simp; done)))⟩
theorem R_apply_p (op a b c d N D E : Int) (h4 : 4 ≤ op) (h14 : op ≤ 14) (h10 : op ≠ 10) (v1 : vldP a b) (v2 : vldP c d) (h : ap2 op a b c d = (N, D, E)) (w : World) :
  Calls Tryz.prog 20 #[.int .i64 op, .agg #[.int .i64 a, .int .i64 b], .agg #[.int .i64 c, .int .i64 d]] w fun e w' => e = .returned (.tuple #[.agg #[.int .i64 N, .int .i64 D], .int .i64 E]) ∧ Below w.heap.size w w' := by
 have hc : op = 4 ∨ op = 5 ∨ op = 6 ∨ op = 7 ∨ op = 8 ∨ op = 9 ∨ op = 11 ∨ op = 12 ∨ op = 13 ∨ op = 14 := by omega
 rcases hc with rfl | rfl | rfl | rfl | rfl | rfl | rfl | rfl | rfl | rfl
 ·
  exact R_apply_4 a b c d N D E h w
 ·
  exact R_apply_5 a b c d N D E h w
 ·
  exact R_apply_6 a b c d N D E h w
 ·
  exact R_apply_7 a b c d N D E v1 v2 h w
 ·
  exact R_apply_8 a b c d N D E h w
 ·
  exact R_apply_9 a b c d N D E h w
 ·
  exact R_apply_11 a b c d N D E h w
 ·
  exact R_apply_12 a b c d N D E h w
 ·
  exact R_apply_13 a b c d N D E h w
 ·
  exact R_apply_14 a b c d N D E h w
end Go.Proofs.YtcmodmchnokmgaaGreat
