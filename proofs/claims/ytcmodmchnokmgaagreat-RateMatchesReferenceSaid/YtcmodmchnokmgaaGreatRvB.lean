/-
 The reference of layer 11: the value of an expression, by induction.
-/
import Derived.Test.YtcmodmchnokmgaaGreatRvA
namespace Go.Proofs.YtcmodmchnokmgaaGreat
set_option linter.unusedSimpArgs false
set_option linter.unusedVariables false
open Go.RowKit
/-- The cells that the walk reads: the expression's, the variables', those of a kid. -/
def RdR (w0 : Nat) (v0 v1 v2 v3 : Int) (op n : Int) (b off m cap o o1 o2 : Nat) (y : Ex) (W : World) : Prop :=
 (W.cell? ⟨w0, 0, none⟩ = some (.int .i64 op) ∧ W.cell? ⟨w0, 1, none⟩ = some (.int .i64 n) ∧ W.cell? ⟨w0, 2, none⟩ = some (.slice (some ⟨b, off, none⟩) m cap)) ∧
 (W.cell? ⟨w0 + 1, 0, none⟩ = some (.int .i64 v0) ∧ W.cell? ⟨w0 + 1, 1, none⟩ = some (.int .i64 v1) ∧ W.cell? ⟨w0 + 1, 2, none⟩ = some (.int .i64 v2) ∧ W.cell? ⟨w0 + 1, 3, none⟩ = some (.int .i64 v3)) ∧
 (W.cell? ⟨b, o, none⟩ = some (.int .i64 y.op) ∧ W.cell? ⟨b, o1, none⟩ = some (.int .i64 y.n) ∧ W.cell? ⟨b, o2, none⟩ = some (.slice y.at' y.ks.length y.cap))
set_option maxRecDepth 100000 in
set_option maxHeartbeats 3200000 in
theorem R_eval_leaf (x : Ex) (v0 v1 v2 v3 : Int) (w : World) (hok : x.ok = true) (h3 : x.op ≤ 3) (N D E : Int) (hv : x.ev (var4 v0 v1 v2 v3) = (N, D, E)) :
  Calls Tryz.prog 28 #[x.val, .agg #[.int .i64 v0, .int .i64 v1, .int .i64 v2, .int .i64 v3]] w fun e w' => e = .returned (.tuple #[.agg #[.int .i64 N, .int .i64 D], .int .i64 E]) ∧ Below w.heap.size w w' := by
 obtain ⟨op, hop⟩ : ∃ o, x.op = o := ⟨_, rfl⟩
 obtain ⟨n, hn⟩ : ∃ o, x.n = o := ⟨_, rfl⟩
 obtain ⟨ad, had⟩ : ∃ o, x.at' = o := ⟨_, rfl⟩
 obtain ⟨m, hm⟩ : ∃ o, x.ks.length = o := ⟨_, rfl⟩
 obtain ⟨cap, hcap⟩ : ∃ o, x.cap = o := ⟨_, rfl⟩
 have hxv : x.val = .agg #[.int .i64 op, .int .i64 n, .slice ad m cap] := by subst hop hn had hm hcap; rfl
 rw [hxv]
 have hnb := nodeB_op (ok_node hok).1
 have hnode := (ok_node hok).1
 rw [hop] at hnb h3 hnode
 rw [hn] at hnode
 by_cases h1 : op = 3
 ·
  have hv' : mk3 (var4 v0 v1 v2 v3 n) 1 = (N, D, E) := by rw [← hv, ev_var (hop.trans h1), hn]
  subst h1
  have hk := nodeB_var hnode
  have HV := Lib.hid hv'
  clear hv hv' hnb hnode hxv hop hn had hm hcap hok h3
  rcases hk with rfl | rfl | rfl | rfl
  ·
   go_enter Tryz.func28, Tryz.ntmps28
   go_wp2_with fail
   refine (R_make_p v0 1 N D E HV.out _).mono ?_
   rintro e w1 ⟨rfl, hb1⟩
   have R_e_1 : Row w1 (w.heap.size) [.int .i64 3, .int .i64 1, .slice ad m cap] := by (repeat' (first | (with_reducible assumption) | (with_reducible refine Row.new' _ _ _ (by first | rfl | (simp; done) | omega)) | (with_reducible first | refine Row.alloc ?_ _ | refine Row.drew ?_ | refine Row.step ?_ (by assumption) | refine Row.drewN ?_ _) | (with_reducible refine Row.set2' ?_ _ _; first | exact ⟨_, _, by assumption⟩ | exact ⟨_, _, Row.alloc (by assumption) _⟩) | (with_reducible refine Row.other ?_ (by first | omega | (simp; omega)) _)))
   have c_e_0_1 := R_e_1.cell 0 rfl
   have c_e_1_1 := R_e_1.cell 1 rfl
   have c_e_2_1 := R_e_1.cell 2 rfl
   have l_e_1 := R_e_1.lt
   have R_v_1 : Row w1 (w.heap.size + 1) [.int .i64 (v0), .int .i64 (v1), .int .i64 (v2), .int .i64 (v3)] := by (repeat' (first | (with_reducible assumption) | (with_reducible refine Row.new' _ _ _ (by first | rfl | (simp; done) | omega)) | (with_reducible first | refine Row.alloc ?_ _ | refine Row.drew ?_ | refine Row.step ?_ (by assumption) | refine Row.drewN ?_ _) | (with_reducible refine Row.set2' ?_ _ _; first | exact ⟨_, _, by assumption⟩ | exact ⟨_, _, Row.alloc (by assumption) _⟩) | (with_reducible refine Row.other ?_ (by first | omega | (simp; omega)) _)))
   have c_v_0_1 := R_v_1.cell 0 rfl
   have c_v_1_1 := R_v_1.cell 1 rfl
   have c_v_2_1 := R_v_1.cell 2 rfl
   have c_v_3_1 := R_v_1.cell 3 rfl
   have l_v_1 := R_v_1.lt
   have R_o_1 : Row w1 (w.heap.size + 2) [.int .i64 (0), .int .i64 (0)] := by (repeat' (first | (with_reducible assumption) | (with_reducible refine Row.new' _ _ _ (by first | rfl | (simp; done) | omega)) | (with_reducible first | refine Row.alloc ?_ _ | refine Row.drew ?_ | refine Row.step ?_ (by assumption) | refine Row.drewN ?_ _) | (with_reducible refine Row.set2' ?_ _ _; first | exact ⟨_, _, by assumption⟩ | exact ⟨_, _, Row.alloc (by assumption) _⟩) | (with_reducible refine Row.other ?_ (by first | omega | (simp; omega)) _)))
   have c_o_0_1 := R_o_1.cell 0 rfl
   have c_o_1_1 := R_o_1.cell 1 rfl
   have z_o_0_1 := R_o_1.frozen 0
   have z_o_1_1 := R_o_1.frozen 1
   have l_o_1 := R_o_1.lt
   have HB1 : Below w.heap.size w w1 := by (repeat' (first | (with_reducible first | exact Below.refl _ _ | assumption | exact Bw.out (by assumption) | refine bw_alloc ?_ _ | refine bw_step ?_ (by assumption) | refine Below.alloc ?_ ?_ _ | refine Below.drew ?_ | refine below_drewN ?_ _ | refine Below.setCell ?_ ?_ _ | refine below_step ?_ (by assumption) ?_ | exact Nat.le_refl _) | omega | (simp; omega) | (simp; done)))
   go_wp2_with fail
   have RP := R_o_1.set2 (.int .i64 (N)) (.int .i64 (D))
   have q0 := RP.cell 0 rfl
   have q1 := RP.cell 1 rfl
   refine bodyPost_ret (v := .tuple #[.agg #[.int .i64 (N), .int .i64 (D)], .int .i64 (E)]) (by simp [results, Tryz.results28, go_sem, q0, q1]) rfl ⟨rfl, by (repeat' (first | (with_reducible first | exact Below.refl _ _ | assumption | exact Bw.out (by assumption) | refine bw_alloc ?_ _ | refine bw_step ?_ (by assumption) | refine Below.alloc ?_ ?_ _ | refine Below.drew ?_ | refine below_drewN ?_ _ | refine Below.setCell ?_ ?_ _ | refine below_step ?_ (by assumption) ?_ | exact Nat.le_refl _) | omega | (simp; omega) | (simp; done)))⟩
  ·
   go_enter Tryz.func28, Tryz.ntmps28
   go_wp2_with fail
   refine (R_make_p v1 1 N D E HV.out _).mono ?_
   rintro e w1 ⟨rfl, hb1⟩
   have R_e_1 : Row w1 (w.heap.size) [.int .i64 3, .int .i64 2, .slice ad m cap] := by (repeat' (first | (with_reducible assumption) | (with_reducible refine Row.new' _ _ _ (by first | rfl | (simp; done) | omega)) | (with_reducible first | refine Row.alloc ?_ _ | refine Row.drew ?_ | refine Row.step ?_ (by assumption) | refine Row.drewN ?_ _) | (with_reducible refine Row.set2' ?_ _ _; first | exact ⟨_, _, by assumption⟩ | exact ⟨_, _, Row.alloc (by assumption) _⟩) | (with_reducible refine Row.other ?_ (by first | omega | (simp; omega)) _)))
   have c_e_0_1 := R_e_1.cell 0 rfl
   have c_e_1_1 := R_e_1.cell 1 rfl
   have c_e_2_1 := R_e_1.cell 2 rfl
   have l_e_1 := R_e_1.lt
   have R_v_1 : Row w1 (w.heap.size + 1) [.int .i64 (v0), .int .i64 (v1), .int .i64 (v2), .int .i64 (v3)] := by (repeat' (first | (with_reducible assumption) | (with_reducible refine Row.new' _ _ _ (by first | rfl | (simp; done) | omega)) | (with_reducible first | refine Row.alloc ?_ _ | refine Row.drew ?_ | refine Row.step ?_ (by assumption) | refine Row.drewN ?_ _) | (with_reducible refine Row.set2' ?_ _ _; first | exact ⟨_, _, by assumption⟩ | exact ⟨_, _, Row.alloc (by assumption) _⟩) | (with_reducible refine Row.other ?_ (by first | omega | (simp; omega)) _)))
   have c_v_0_1 := R_v_1.cell 0 rfl
   have c_v_1_1 := R_v_1.cell 1 rfl
   have c_v_2_1 := R_v_1.cell 2 rfl
   have c_v_3_1 := R_v_1.cell 3 rfl
   have l_v_1 := R_v_1.lt
   have R_o_1 : Row w1 (w.heap.size + 2) [.int .i64 (0), .int .i64 (0)] := by (repeat' (first | (with_reducible assumption) | (with_reducible refine Row.new' _ _ _ (by first | rfl | (simp; done) | omega)) | (with_reducible first | refine Row.alloc ?_ _ | refine Row.drew ?_ | refine Row.step ?_ (by assumption) | refine Row.drewN ?_ _) | (with_reducible refine Row.set2' ?_ _ _; first | exact ⟨_, _, by assumption⟩ | exact ⟨_, _, Row.alloc (by assumption) _⟩) | (with_reducible refine Row.other ?_ (by first | omega | (simp; omega)) _)))
   have c_o_0_1 := R_o_1.cell 0 rfl
   have c_o_1_1 := R_o_1.cell 1 rfl
   have z_o_0_1 := R_o_1.frozen 0
   have z_o_1_1 := R_o_1.frozen 1
   have l_o_1 := R_o_1.lt
   have HB1 : Below w.heap.size w w1 := by (repeat' (first | (with_reducible first | exact Below.refl _ _ | assumption | exact Bw.out (by assumption) | refine bw_alloc ?_ _ | refine bw_step ?_ (by assumption) | refine Below.alloc ?_ ?_ _ | refine Below.drew ?_ | refine below_drewN ?_ _ | refine Below.setCell ?_ ?_ _ | refine below_step ?_ (by assumption) ?_ | exact Nat.le_refl _) | omega | (simp; omega) | (simp; done)))
   go_wp2_with fail
   have RP := R_o_1.set2 (.int .i64 (N)) (.int .i64 (D))
   have q0 := RP.cell 0 rfl
   have q1 := RP.cell 1 rfl
   refine bodyPost_ret (v := .tuple #[.agg #[.int .i64 (N), .int .i64 (D)], .int .i64 (E)]) (by simp [results, Tryz.results28, go_sem, q0, q1]) rfl ⟨rfl, by (repeat' (first | (with_reducible first | exact Below.refl _ _ | assumption | exact Bw.out (by assumption) | refine bw_alloc ?_ _ | refine bw_step ?_ (by assumption) | refine Below.alloc ?_ ?_ _ | refine Below.drew ?_ | refine below_drewN ?_ _ | refine Below.setCell ?_ ?_ _ | refine below_step ?_ (by assumption) ?_ | exact Nat.le_refl _) | omega | (simp; omega) | (simp; done)))⟩
  ·
   go_enter Tryz.func28, Tryz.ntmps28
   go_wp2_with fail
   refine (R_make_p v2 1 N D E HV.out _).mono ?_
   rintro e w1 ⟨rfl, hb1⟩
   have R_e_1 : Row w1 (w.heap.size) [.int .i64 3, .int .i64 3, .slice ad m cap] := by (repeat' (first | (with_reducible assumption) | (with_reducible refine Row.new' _ _ _ (by first | rfl | (simp; done) | omega)) | (with_reducible first | refine Row.alloc ?_ _ | refine Row.drew ?_ | refine Row.step ?_ (by assumption) | refine Row.drewN ?_ _) | (with_reducible refine Row.set2' ?_ _ _; first | exact ⟨_, _, by assumption⟩ | exact ⟨_, _, Row.alloc (by assumption) _⟩) | (with_reducible refine Row.other ?_ (by first | omega | (simp; omega)) _)))
   have c_e_0_1 := R_e_1.cell 0 rfl
   have c_e_1_1 := R_e_1.cell 1 rfl
   have c_e_2_1 := R_e_1.cell 2 rfl
   have l_e_1 := R_e_1.lt
   have R_v_1 : Row w1 (w.heap.size + 1) [.int .i64 (v0), .int .i64 (v1), .int .i64 (v2), .int .i64 (v3)] := by (repeat' (first | (with_reducible assumption) | (with_reducible refine Row.new' _ _ _ (by first | rfl | (simp; done) | omega)) | (with_reducible first | refine Row.alloc ?_ _ | refine Row.drew ?_ | refine Row.step ?_ (by assumption) | refine Row.drewN ?_ _) | (with_reducible refine Row.set2' ?_ _ _; first | exact ⟨_, _, by assumption⟩ | exact ⟨_, _, Row.alloc (by assumption) _⟩) | (with_reducible refine Row.other ?_ (by first | omega | (simp; omega)) _)))
   have c_v_0_1 := R_v_1.cell 0 rfl
   have c_v_1_1 := R_v_1.cell 1 rfl
   have c_v_2_1 := R_v_1.cell 2 rfl
   have c_v_3_1 := R_v_1.cell 3 rfl
   have l_v_1 := R_v_1.lt
   have R_o_1 : Row w1 (w.heap.size + 2) [.int .i64 (0), .int .i64 (0)] := by (repeat' (first | (with_reducible assumption) | (with_reducible refine Row.new' _ _ _ (by first | rfl | (simp; done) | omega)) | (with_reducible first | refine Row.alloc ?_ _ | refine Row.drew ?_ | refine Row.step ?_ (by assumption) | refine Row.drewN ?_ _) | (with_reducible refine Row.set2' ?_ _ _; first | exact ⟨_, _, by assumption⟩ | exact ⟨_, _, Row.alloc (by assumption) _⟩) | (with_reducible refine Row.other ?_ (by first | omega | (simp; omega)) _)))
   have c_o_0_1 := R_o_1.cell 0 rfl
   have c_o_1_1 := R_o_1.cell 1 rfl
   have z_o_0_1 := R_o_1.frozen 0
   have z_o_1_1 := R_o_1.frozen 1
   have l_o_1 := R_o_1.lt
   have HB1 : Below w.heap.size w w1 := by (repeat' (first | (with_reducible first | exact Below.refl _ _ | assumption | exact Bw.out (by assumption) | refine bw_alloc ?_ _ | refine bw_step ?_ (by assumption) | refine Below.alloc ?_ ?_ _ | refine Below.drew ?_ | refine below_drewN ?_ _ | refine Below.setCell ?_ ?_ _ | refine below_step ?_ (by assumption) ?_ | exact Nat.le_refl _) | omega | (simp; omega) | (simp; done)))
   go_wp2_with fail
   have RP := R_o_1.set2 (.int .i64 (N)) (.int .i64 (D))
   have q0 := RP.cell 0 rfl
   have q1 := RP.cell 1 rfl
   refine bodyPost_ret (v := .tuple #[.agg #[.int .i64 (N), .int .i64 (D)], .int .i64 (E)]) (by simp [results, Tryz.results28, go_sem, q0, q1]) rfl ⟨rfl, by (repeat' (first | (with_reducible first | exact Below.refl _ _ | assumption | exact Bw.out (by assumption) | refine bw_alloc ?_ _ | refine bw_step ?_ (by assumption) | refine Below.alloc ?_ ?_ _ | refine Below.drew ?_ | refine below_drewN ?_ _ | refine Below.setCell ?_ ?_ _ | refine below_step ?_ (by assumption) ?_ | exact Nat.le_refl _) | omega | (simp; omega) | (simp; done)))⟩
  ·
   go_enter Tryz.func28, Tryz.ntmps28
   go_wp2_with fail
   refine (R_make_p v3 1 N D E HV.out _).mono ?_
   rintro e w1 ⟨rfl, hb1⟩
   have R_e_1 : Row w1 (w.heap.size) [.int .i64 3, .int .i64 4, .slice ad m cap] := by (repeat' (first | (with_reducible assumption) | (with_reducible refine Row.new' _ _ _ (by first | rfl | (simp; done) | omega)) | (with_reducible first | refine Row.alloc ?_ _ | refine Row.drew ?_ | refine Row.step ?_ (by assumption) | refine Row.drewN ?_ _) | (with_reducible refine Row.set2' ?_ _ _; first | exact ⟨_, _, by assumption⟩ | exact ⟨_, _, Row.alloc (by assumption) _⟩) | (with_reducible refine Row.other ?_ (by first | omega | (simp; omega)) _)))
   have c_e_0_1 := R_e_1.cell 0 rfl
   have c_e_1_1 := R_e_1.cell 1 rfl
   have c_e_2_1 := R_e_1.cell 2 rfl
   have l_e_1 := R_e_1.lt
   have R_v_1 : Row w1 (w.heap.size + 1) [.int .i64 (v0), .int .i64 (v1), .int .i64 (v2), .int .i64 (v3)] := by (repeat' (first | (with_reducible assumption) | (with_reducible refine Row.new' _ _ _ (by first | rfl | (simp; done) | omega)) | (with_reducible first | refine Row.alloc ?_ _ | refine Row.drew ?_ | refine Row.step ?_ (by assumption) | refine Row.drewN ?_ _) | (with_reducible refine Row.set2' ?_ _ _; first | exact ⟨_, _, by assumption⟩ | exact ⟨_, _, Row.alloc (by assumption) _⟩) | (with_reducible refine Row.other ?_ (by first | omega | (simp; omega)) _)))
   have c_v_0_1 := R_v_1.cell 0 rfl
   have c_v_1_1 := R_v_1.cell 1 rfl
   have c_v_2_1 := R_v_1.cell 2 rfl
   have c_v_3_1 := R_v_1.cell 3 rfl
   have l_v_1 := R_v_1.lt
   have R_o_1 : Row w1 (w.heap.size + 2) [.int .i64 (0), .int .i64 (0)] := by (repeat' (first | (with_reducible assumption) | (with_reducible refine Row.new' _ _ _ (by first | rfl | (simp; done) | omega)) | (with_reducible first | refine Row.alloc ?_ _ | refine Row.drew ?_ | refine Row.step ?_ (by assumption) | refine Row.drewN ?_ _) | (with_reducible refine Row.set2' ?_ _ _; first | exact ⟨_, _, by assumption⟩ | exact ⟨_, _, Row.alloc (by assumption) _⟩) | (with_reducible refine Row.other ?_ (by first | omega | (simp; omega)) _)))
   have c_o_0_1 := R_o_1.cell 0 rfl
   have c_o_1_1 := R_o_1.cell 1 rfl
   have z_o_0_1 := R_o_1.frozen 0
   have z_o_1_1 := R_o_1.frozen 1
   have l_o_1 := R_o_1.lt
   have HB1 : Below w.heap.size w w1 := by (repeat' (first | (with_reducible first | exact Below.refl _ _ | assumption | exact Bw.out (by assumption) | refine bw_alloc ?_ _ | refine bw_step ?_ (by assumption) | refine Below.alloc ?_ ?_ _ | refine Below.drew ?_ | refine below_drewN ?_ _ | refine Below.setCell ?_ ?_ _ | refine below_step ?_ (by assumption) ?_ | exact Nat.le_refl _) | omega | (simp; omega) | (simp; done)))
   go_wp2_with fail
   have RP := R_o_1.set2 (.int .i64 (N)) (.int .i64 (D))
   have q0 := RP.cell 0 rfl
   have q1 := RP.cell 1 rfl
   refine bodyPost_ret (v := .tuple #[.agg #[.int .i64 (N), .int .i64 (D)], .int .i64 (E)]) (by simp [results, Tryz.results28, go_sem, q0, q1]) rfl ⟨rfl, by (repeat' (first | (with_reducible first | exact Below.refl _ _ | assumption | exact Bw.out (by assumption) | refine bw_alloc ?_ _ | refine bw_step ?_ (by assumption) | refine Below.alloc ?_ ?_ _ | refine Below.drew ?_ | refine below_drewN ?_ _ | refine Below.setCell ?_ ?_ _ | refine below_step ?_ (by assumption) ?_ | exact Nat.le_refl _) | omega | (simp; omega) | (simp; done)))⟩
 ·
  have hv' : mk3 n 1 = (N, D, E) := by rw [← hv, ev_num (by omega), hn]
  have HV := Lib.hid hv'
  have hc : op = 1 ∨ op = 2 := by omega
  clear hv hv' hnb hnode hxv hop hn had hm hcap hok h3 h1
  rcases hc with rfl | rfl
  ·
   go_enter Tryz.func28, Tryz.ntmps28
   go_wp2_with fail
   refine (R_make_p n 1 N D E HV.out _).mono ?_
   rintro e w1 ⟨rfl, hb1⟩
   have R_e_1 : Row w1 (w.heap.size) [.int .i64 1, .int .i64 n, .slice ad m cap] := by (repeat' (first | (with_reducible assumption) | (with_reducible refine Row.new' _ _ _ (by first | rfl | (simp; done) | omega)) | (with_reducible first | refine Row.alloc ?_ _ | refine Row.drew ?_ | refine Row.step ?_ (by assumption) | refine Row.drewN ?_ _) | (with_reducible refine Row.set2' ?_ _ _; first | exact ⟨_, _, by assumption⟩ | exact ⟨_, _, Row.alloc (by assumption) _⟩) | (with_reducible refine Row.other ?_ (by first | omega | (simp; omega)) _)))
   have c_e_0_1 := R_e_1.cell 0 rfl
   have c_e_1_1 := R_e_1.cell 1 rfl
   have c_e_2_1 := R_e_1.cell 2 rfl
   have l_e_1 := R_e_1.lt
   have R_v_1 : Row w1 (w.heap.size + 1) [.int .i64 (v0), .int .i64 (v1), .int .i64 (v2), .int .i64 (v3)] := by (repeat' (first | (with_reducible assumption) | (with_reducible refine Row.new' _ _ _ (by first | rfl | (simp; done) | omega)) | (with_reducible first | refine Row.alloc ?_ _ | refine Row.drew ?_ | refine Row.step ?_ (by assumption) | refine Row.drewN ?_ _) | (with_reducible refine Row.set2' ?_ _ _; first | exact ⟨_, _, by assumption⟩ | exact ⟨_, _, Row.alloc (by assumption) _⟩) | (with_reducible refine Row.other ?_ (by first | omega | (simp; omega)) _)))
   have c_v_0_1 := R_v_1.cell 0 rfl
   have c_v_1_1 := R_v_1.cell 1 rfl
   have c_v_2_1 := R_v_1.cell 2 rfl
   have c_v_3_1 := R_v_1.cell 3 rfl
   have l_v_1 := R_v_1.lt
   have R_o_1 : Row w1 (w.heap.size + 2) [.int .i64 (0), .int .i64 (0)] := by (repeat' (first | (with_reducible assumption) | (with_reducible refine Row.new' _ _ _ (by first | rfl | (simp; done) | omega)) | (with_reducible first | refine Row.alloc ?_ _ | refine Row.drew ?_ | refine Row.step ?_ (by assumption) | refine Row.drewN ?_ _) | (with_reducible refine Row.set2' ?_ _ _; first | exact ⟨_, _, by assumption⟩ | exact ⟨_, _, Row.alloc (by assumption) _⟩) | (with_reducible refine Row.other ?_ (by first | omega | (simp; omega)) _)))
   have c_o_0_1 := R_o_1.cell 0 rfl
   have c_o_1_1 := R_o_1.cell 1 rfl
   have z_o_0_1 := R_o_1.frozen 0
   have z_o_1_1 := R_o_1.frozen 1
   have l_o_1 := R_o_1.lt
   have HB1 : Below w.heap.size w w1 := by (repeat' (first | (with_reducible first | exact Below.refl _ _ | assumption | exact Bw.out (by assumption) | refine bw_alloc ?_ _ | refine bw_step ?_ (by assumption) | refine Below.alloc ?_ ?_ _ | refine Below.drew ?_ | refine below_drewN ?_ _ | refine Below.setCell ?_ ?_ _ | refine below_step ?_ (by assumption) ?_ | exact Nat.le_refl _) | omega | (simp; omega) | (simp; done)))
   go_wp2_with fail
   have RP := R_o_1.set2 (.int .i64 (N)) (.int .i64 (D))
   have q0 := RP.cell 0 rfl
   have q1 := RP.cell 1 rfl
   refine bodyPost_ret (v := .tuple #[.agg #[.int .i64 (N), .int .i64 (D)], .int .i64 (E)]) (by simp [results, Tryz.results28, go_sem, q0, q1]) rfl ⟨rfl, by (repeat' (first | (with_reducible first | exact Below.refl _ _ | assumption | exact Bw.out (by assumption) | refine bw_alloc ?_ _ | refine bw_step ?_ (by assumption) | refine Below.alloc ?_ ?_ _ | refine Below.drew ?_ | refine below_drewN ?_ _ | refine Below.setCell ?_ ?_ _ | refine below_step ?_ (by assumption) ?_ | exact Nat.le_refl _) | omega | (simp; omega) | (simp; done)))⟩
  ·
   go_enter Tryz.func28, Tryz.ntmps28
   go_wp2_with fail
   refine (R_make_p n 1 N D E HV.out _).mono ?_
   rintro e w1 ⟨rfl, hb1⟩
   have R_e_1 : Row w1 (w.heap.size) [.int .i64 2, .int .i64 n, .slice ad m cap] := by (repeat' (first | (with_reducible assumption) | (with_reducible refine Row.new' _ _ _ (by first | rfl | (simp; done) | omega)) | (with_reducible first | refine Row.alloc ?_ _ | refine Row.drew ?_ | refine Row.step ?_ (by assumption) | refine Row.drewN ?_ _) | (with_reducible refine Row.set2' ?_ _ _; first | exact ⟨_, _, by assumption⟩ | exact ⟨_, _, Row.alloc (by assumption) _⟩) | (with_reducible refine Row.other ?_ (by first | omega | (simp; omega)) _)))
   have c_e_0_1 := R_e_1.cell 0 rfl
   have c_e_1_1 := R_e_1.cell 1 rfl
   have c_e_2_1 := R_e_1.cell 2 rfl
   have l_e_1 := R_e_1.lt
   have R_v_1 : Row w1 (w.heap.size + 1) [.int .i64 (v0), .int .i64 (v1), .int .i64 (v2), .int .i64 (v3)] := by (repeat' (first | (with_reducible assumption) | (with_reducible refine Row.new' _ _ _ (by first | rfl | (simp; done) | omega)) | (with_reducible first | refine Row.alloc ?_ _ | refine Row.drew ?_ | refine Row.step ?_ (by assumption) | refine Row.drewN ?_ _) | (with_reducible refine Row.set2' ?_ _ _; first | exact ⟨_, _, by assumption⟩ | exact ⟨_, _, Row.alloc (by assumption) _⟩) | (with_reducible refine Row.other ?_ (by first | omega | (simp; omega)) _)))
   have c_v_0_1 := R_v_1.cell 0 rfl
   have c_v_1_1 := R_v_1.cell 1 rfl
   have c_v_2_1 := R_v_1.cell 2 rfl
   have c_v_3_1 := R_v_1.cell 3 rfl
   have l_v_1 := R_v_1.lt
   have R_o_1 : Row w1 (w.heap.size + 2) [.int .i64 (0), .int .i64 (0)] := by (repeat' (first | (with_reducible assumption) | (with_reducible refine Row.new' _ _ _ (by first | rfl | (simp; done) | omega)) | (with_reducible first | refine Row.alloc ?_ _ | refine Row.drew ?_ | refine Row.step ?_ (by assumption) | refine Row.drewN ?_ _) | (with_reducible refine Row.set2' ?_ _ _; first | exact ⟨_, _, by assumption⟩ | exact ⟨_, _, Row.alloc (by assumption) _⟩) | (with_reducible refine Row.other ?_ (by first | omega | (simp; omega)) _)))
   have c_o_0_1 := R_o_1.cell 0 rfl
   have c_o_1_1 := R_o_1.cell 1 rfl
   have z_o_0_1 := R_o_1.frozen 0
   have z_o_1_1 := R_o_1.frozen 1
   have l_o_1 := R_o_1.lt
   have HB1 : Below w.heap.size w w1 := by (repeat' (first | (with_reducible first | exact Below.refl _ _ | assumption | exact Bw.out (by assumption) | refine bw_alloc ?_ _ | refine bw_step ?_ (by assumption) | refine Below.alloc ?_ ?_ _ | refine Below.drew ?_ | refine below_drewN ?_ _ | refine Below.setCell ?_ ?_ _ | refine below_step ?_ (by assumption) ?_ | exact Nat.le_refl _) | omega | (simp; omega) | (simp; done)))
   go_wp2_with fail
   have RP := R_o_1.set2 (.int .i64 (N)) (.int .i64 (D))
   have q0 := RP.cell 0 rfl
   have q1 := RP.cell 1 rfl
   refine bodyPost_ret (v := .tuple #[.agg #[.int .i64 (N), .int .i64 (D)], .int .i64 (E)]) (by simp [results, Tryz.results28, go_sem, q0, q1]) rfl ⟨rfl, by (repeat' (first | (with_reducible first | exact Below.refl _ _ | assumption | exact Bw.out (by assumption) | refine bw_alloc ?_ _ | refine bw_step ?_ (by assumption) | refine Below.alloc ?_ ?_ _ | refine Below.drew ?_ | refine below_drewN ?_ _ | refine Below.setCell ?_ ?_ _ | refine below_step ?_ (by assumption) ?_ | exact Nat.le_refl _) | omega | (simp; omega) | (simp; done)))⟩
set_option maxRecDepth 100000 in
set_option maxHeartbeats 12800000 in
theorem R_eval_all (v0 v1 v2 v3 : Int) : ∀ (N : Nat) (x : Ex), x.size ≤ N → ∀ (w : World), x.In w → x.ok = true → ∀ (RN RD RE : Int), x.ev (var4 v0 v1 v2 v3) = (RN, RD, RE) →
  Calls Tryz.prog 28 #[x.val, .agg #[.int .i64 v0, .int .i64 v1, .int .i64 v2, .int .i64 v3]] w fun e w' => e = .returned (.tuple #[.agg #[.int .i64 RN, .int .i64 RD], .int .i64 RE]) ∧ Below w.heap.size w w' := by
 intro N
 induction N with
 | zero => intro x hx; have := x.size_pos; omega
 | succ N ih =>
  intro x hx w hin hok RN RD RE hR
  by_cases h3 : x.op ≤ 3
  ·
   exact R_eval_leaf x v0 v1 v2 v3 w hok h3 RN RD RE hR
  have HIN := Lib.hid hin
  have HX := Lib.hid hx
  have HOK := Lib.hid hok
  have HNB := Lib.hid (nodeB_op (ok_node hok).1)
  have hm3 := nodeB_kids (ok_node hok).1
  have HR := Lib.hid hR
  have HXO := Lib.hid (show 4 ≤ x.op by omega)
  clear hR hin hx hok
  obtain ⟨op, hop⟩ : ∃ op, x.op = op := ⟨_, rfl⟩
  obtain ⟨n, hn⟩ : ∃ n, x.n = n := ⟨_, rfl⟩
  obtain ⟨ad, had⟩ : ∃ ad, x.at' = ad := ⟨_, rfl⟩
  obtain ⟨m, hm⟩ : ∃ m, x.ks.length = m := ⟨_, rfl⟩
  obtain ⟨cap, hcap⟩ : ∃ cap, x.cap = cap := ⟨_, rfl⟩
  rw [show x.val = .agg #[.int .i64 x.op, .int .i64 x.n, .slice x.at' x.ks.length x.cap] from rfl, hop, hn, had, hm, hcap]
  rw [hm] at hm3
  have HE := Lib.hid (And.intro hop (And.intro hn (And.intro had hm)))
  clear hop hn had hm hcap
  obtain ⟨o1, o2, o3⟩ := HNB.out
  obtain ⟨k1, k2, k3⟩ := kidN_ge HXO.out o2
  rw [HE.out.1] at o1 o2 o3 k1 k2 k3 h3
  rw [HE.out.2.2.2] at o3
  rw [← o3] at k1 k2 k3
  clear o3
  have hm0 : 0 < m := by omega
  have n1 : (op == 1) = false := by simp; omega
  have n2 : (op == 2) = false := by simp; omega
  have n3 : (op == 3) = false := by simp; omega
  obtain ⟨y, b, off, hy, hyin, e, hlb, c0, c1, c2⟩ := HIN.out.kidAt (Below.refl _ w) (k := 0) (by have := HE.out.2.2.2; omega)
  have hh := HE.out.2.2.1
  rw [e] at hh
  subst hh
  have HYS : Hid (y.size ≤ N) := by
   show _ ≤ _
   have := szL_mem hy.out
   have h2 := HX.out
   rw [x.size_eq] at h2
   omega
  have HY0 := Lib.hid hyin
  have HYO := Lib.hid (ok_kid HOK.out hy.out)
  obtain ⟨ya, yb, ye, hyv⟩ : ∃ ya yb ye, y.ev (var4 v0 v1 v2 v3) = (ya, yb, ye) := ⟨_, _, _, rfl⟩
  have HYV := Lib.hid hyv
  rw [show off + 0 * 3 = off by omega] at c0 c1 c2
  clear hyin e hyv
  go_enter Tryz.func28, Tryz.ntmps28
  go_upto_region 8 with fail
  have HB0 := Below.refl w.heap.size w
  obtain ⟨w1, hw1⟩ : ∃ x, World.alloc (World.alloc (World.alloc w (.cells #[.int .i64 op, .int .i64 n, .slice (some ⟨b, off, none⟩) m cap] 24)) (.cells #[.int .i64 v0, .int .i64 v1, .int .i64 v2, .int .i64 v3] 25)) (.cells #[.int .i64 0, .int .i64 0] 33) = x := ⟨_, rfl⟩
  rw [hw1]
  have hb1 : Below w.heap.size w w1 := by rw [← hw1]; (repeat' (first | (with_reducible first | exact Below.refl _ _ | assumption | exact Bw.out (by assumption) | refine bw_alloc ?_ _ | refine bw_step ?_ (by assumption) | refine Below.alloc ?_ ?_ _ | refine Below.drew ?_ | refine below_drewN ?_ _ | refine Below.setCell ?_ ?_ _ | refine below_step ?_ (by assumption) ?_ | exact Nat.le_refl _) | omega | (simp; omega) | (simp; done)))
  have R_e_1 : Row w1 (w.heap.size) [.int .i64 op, .int .i64 n, .slice (some ⟨b, off, none⟩) m cap] := by rw [← hw1]; (repeat' (first | (with_reducible assumption) | (with_reducible refine Row.new' _ _ _ (by first | rfl | (simp; done) | omega)) | (with_reducible first | refine Row.alloc ?_ _ | refine Row.drew ?_ | refine Row.step ?_ (by assumption) | refine Row.drewN ?_ _) | (with_reducible refine Row.set2' ?_ _ _; first | exact ⟨_, _, by assumption⟩ | exact ⟨_, _, Row.alloc (by assumption) _⟩) | (with_reducible refine Row.other ?_ (by first | omega | (simp; omega)) _)))
  have c_e_0_1 := R_e_1.cell 0 rfl
  have c_e_1_1 := R_e_1.cell 1 rfl
  have c_e_2_1 := R_e_1.cell 2 rfl
  have l_e_1 := R_e_1.lt
  have R_v_1 : Row w1 (w.heap.size + 1) [.int .i64 (v0), .int .i64 (v1), .int .i64 (v2), .int .i64 (v3)] := by rw [← hw1]; (repeat' (first | (with_reducible assumption) | (with_reducible refine Row.new' _ _ _ (by first | rfl | (simp; done) | omega)) | (with_reducible first | refine Row.alloc ?_ _ | refine Row.drew ?_ | refine Row.step ?_ (by assumption) | refine Row.drewN ?_ _) | (with_reducible refine Row.set2' ?_ _ _; first | exact ⟨_, _, by assumption⟩ | exact ⟨_, _, Row.alloc (by assumption) _⟩) | (with_reducible refine Row.other ?_ (by first | omega | (simp; omega)) _)))
  have c_v_0_1 := R_v_1.cell 0 rfl
  have c_v_1_1 := R_v_1.cell 1 rfl
  have c_v_2_1 := R_v_1.cell 2 rfl
  have c_v_3_1 := R_v_1.cell 3 rfl
  have l_v_1 := R_v_1.lt
  have R_o_1 : Row w1 (w.heap.size + 1 + 1) [.int .i64 (0), .int .i64 (0)] := by rw [← hw1]; (repeat' (first | (with_reducible assumption) | (with_reducible refine Row.new' _ _ _ (by first | rfl | (simp; done) | omega)) | (with_reducible first | refine Row.alloc ?_ _ | refine Row.drew ?_ | refine Row.step ?_ (by assumption) | refine Row.drewN ?_ _) | (with_reducible refine Row.set2' ?_ _ _; first | exact ⟨_, _, by assumption⟩ | exact ⟨_, _, Row.alloc (by assumption) _⟩) | (with_reducible refine Row.other ?_ (by first | omega | (simp; omega)) _)))
  have c_o_0_1 := R_o_1.cell 0 rfl
  have c_o_1_1 := R_o_1.cell 1 rfl
  have z_o_0_1 := R_o_1.frozen 0
  have z_o_1_1 := R_o_1.frozen 1
  have l_o_1 := R_o_1.lt
  have HB1 := HB0.trans (hb1.mono HB0.size)
  have hs1 := hb1.size
  have hz1 := HB1.size
  have HS : Hid (∀ W, Below w1.heap.size w1 W → RdR w.heap.size v0 v1 v2 v3 op n b off m cap off (off + 1) (off + 2) y W) := fun W h =>
   ⟨⟨(R_e_1.step h).cell 0 rfl, (R_e_1.step h).cell 1 rfl, (R_e_1.step h).cell 2 rfl⟩, ⟨(R_v_1.step h).cell 0 rfl, (R_v_1.step h).cell 1 rfl, (R_v_1.step h).cell 2 rfl, (R_v_1.step h).cell 3 rfl⟩,
    ((HB1.trans (h.mono HB1.size)).cell (p := ⟨b, off, none⟩) hlb).trans c0, ((HB1.trans (h.mono HB1.size)).cell (p := ⟨b, off + 1, none⟩) hlb).trans c1, ((HB1.trans (h.mono HB1.size)).cell (p := ⟨b, off + 2, none⟩) hlb).trans c2⟩
  have HYI := Lib.hid (HY0.out.step HB1)
  clear c0 c1 c2
  go_cut [6, 7] from 35 to 43 (fun v u wx => ∃ A : Nat, v = .pointer (some ⟨A, 0, none⟩) ∧ u = .int .i64 ye ∧ Row wx A [.int .i64 ya, .int .i64 yb] ∧ Below w1.heap.size w1 wx)
  case first =>
   refine AnyJ.beginP (RdR w.heap.size v0 v1 v2 v3 op n b off m cap (off) (off + 1) (off + 2) y) (fun j => decide (j ≤ 10)) (by kernel_rfl) (HS.out _ (Below.refl _ _).drew) (fun hS => ?_)
   obtain ⟨u2, hu2⟩ : ∃ X, World.drew w1 = X := ⟨_, rfl⟩
   have hbu2 : Below w1.heap.size w1 u2 := by rw [← hu2]; exact (Below.refl _ _).drew
   rw [hu2] at hS ⊢
   clear hu2
   refine AnyJ.takeD (i := 0) (d := some 36) (v := ?_) rfl (by kernel_rfl) (by kernel_rfl) (by kernel_rfl) (by kernel_rfl) (by kernel_rfl) (fun _ _ _ h => h) (Or.inl ⟨by kernel_rfl, ?_⟩) hS ?_
   rotate_left
   ·
    intro w' hS
    obtain ⟨⟨sE0, sE1, sE2⟩, ⟨sV0, sV1, sV2, sV3⟩, sK0, sK1, sK2⟩ := hS
    go_simp
    try with_reducible rfl
   refine AnyJ.takeD (i := 1) (d := some 37) (v := ?_) rfl (by kernel_rfl) (by kernel_rfl) (by kernel_rfl) (by kernel_rfl) (by kernel_rfl) (fun _ _ _ h => h) (Or.inl ⟨by kernel_rfl, ?_⟩) hS ?_
   rotate_left
   ·
    intro w' hS
    obtain ⟨⟨sE0, sE1, sE2⟩, ⟨sV0, sV1, sV2, sV3⟩, sK0, sK1, sK2⟩ := hS
    go_simp
    try with_reducible rfl
   refine AnyJ.takeD (i := 2) (d := some 38) (v := ?_) rfl (by kernel_rfl) (by kernel_rfl) (by kernel_rfl) (by kernel_rfl) (by kernel_rfl) (fun _ _ _ h => h) (Or.inl ⟨by kernel_rfl, ?_⟩) hS ?_
   rotate_left
   ·
    intro w' hS
    obtain ⟨⟨sE0, sE1, sE2⟩, ⟨sV0, sV1, sV2, sV3⟩, sK0, sK1, sK2⟩ := hS
    go_simp
    try with_reducible rfl
   refine AnyJ.takeD (i := 3) (d := some 39) (v := ?_) rfl (by kernel_rfl) (by kernel_rfl) (by kernel_rfl) (by kernel_rfl) (by kernel_rfl) (fun _ _ _ h => h) (Or.inl ⟨by kernel_rfl, ?_⟩) hS ?_
   rotate_left
   ·
    intro w' hS
    obtain ⟨⟨sE0, sE1, sE2⟩, ⟨sV0, sV1, sV2, sV3⟩, sK0, sK1, sK2⟩ := hS
    go_simp
    try with_reducible rfl
   refine AnyJ.takeD (i := 4) (d := some 40) (v := ?_) rfl (by kernel_rfl) (by kernel_rfl) (by kernel_rfl) (by kernel_rfl) (by kernel_rfl) (fun _ _ _ h => h) (Or.inl ⟨by kernel_rfl, ?_⟩) hS ?_
   rotate_left
   ·
    intro w' hS
    obtain ⟨⟨sE0, sE1, sE2⟩, ⟨sV0, sV1, sV2, sV3⟩, sK0, sK1, sK2⟩ := hS
    go_simp
    try with_reducible rfl
   clear hS
   refine AnyJ.two (i := 5) (j := 9) (by kernel_rfl) rfl rfl (fun Kz hKz => ?_) (fun Kz hKz => ?_)
   ·
    go_simp
    refine (ih y HYS.out u2 (HYI.out.step hbu2) HYO.out ya yb ye HYV.out).mono ?_
    rintro e u3 ⟨rfl, hsu3⟩
    have hbu3 : Below w1.heap.size w1 u3 := hbu2.trans (hsu3.mono hbu2.size)
    have hS := HS.out _ hbu3
    refine hKz _ _ (fun _ => hS) ?_
    clear hKz Kz
    refine AnyJ.takeD (i := 6) (d := some 35) (v := ?_) rfl (by kernel_rfl) (by kernel_rfl) (by kernel_rfl) (by kernel_rfl) (by kernel_rfl) (fun _ _ _ h => h) (Or.inl ⟨by kernel_rfl, ?_⟩) hS ?_
    rotate_left
    ·
     intro w' hS
     obtain ⟨⟨sE0, sE1, sE2⟩, ⟨sV0, sV1, sV2, sV3⟩, sK0, sK1, sK2⟩ := hS
     go_simp
     try with_reducible rfl
    refine AnyJ.takeD (i := 7) (d := some 42) (v := ?_) rfl (by kernel_rfl) (by kernel_rfl) (by kernel_rfl) (by kernel_rfl) (by kernel_rfl) (fun _ _ _ h => h) (Or.inl ⟨by kernel_rfl, ?_⟩) hS ?_
    rotate_left
    ·
     intro w' hS
     obtain ⟨⟨sE0, sE1, sE2⟩, ⟨sV0, sV1, sV2, sV3⟩, sK0, sK1, sK2⟩ := hS
     go_simp
     try with_reducible rfl
    refine AnyJ.takeD (i := 8) (d := some 43) (v := ?_) rfl (by kernel_rfl) (by kernel_rfl) (by kernel_rfl) (by kernel_rfl) (by kernel_rfl) (fun _ _ _ h => h) (Or.inl ⟨by kernel_rfl, ?_⟩) hS ?_
    rotate_left
    ·
     intro w' hS
     obtain ⟨⟨sE0, sE1, sE2⟩, ⟨sV0, sV1, sV2, sV3⟩, sK0, sK1, sK2⟩ := hS
     go_simp
     try with_reducible rfl
    clear hS
    refine AnyJ.one (i := 9) (by kernel_rfl) rfl (fun Kz hKz => ?_)
    go_simp
    obtain ⟨u4, hwu4⟩ : ∃ X, World.alloc u3 (.cells #[.int .i64 0, .int .i64 0] 33) = X := ⟨_, rfl⟩
    rw [hwu4]
    have hsu4 : Below u3.heap.size u3 u4 := by rw [← hwu4]; exact (Below.refl _ _).alloc (Nat.le_refl _) _
    have hbu4 : Below w1.heap.size w1 u4 := hbu3.trans (hsu4.mono hbu3.size)
    have hA : w1.heap.size ≤ u3.heap.size := hbu3.size
    have RA : Row u4 u3.heap.size [.int .i64 0, .int .i64 0] := by rw [← hwu4]; exact Row.new' _ _ _ rfl
    clear hwu4
    refine hKz _ _ (fun _ => HS.out _ hbu4) ?_
    clear hKz Kz
    have a0 := RA.cell 0 rfl
    have a1 := RA.cell 1 rfl
    have f0 := RA.frozen 0
    have f1 := RA.frozen 1
    have fl := RA.lt
    refine AnyJ.one (i := 10) (by kernel_rfl) rfl (fun Kz hKz => ?_)
    go_simp
    refine hKz _ _ (fun _ => HS.out _ ((hbu4.setCell (hp := hA) (p := ⟨u3.heap.size, 0, none⟩) _).setCell (hp := hA) (p := ⟨u3.heap.size, 1, none⟩) _)) ?_
    clear hKz Kz
    refine AnyJ.one (i := 11) (by kernel_rfl) rfl (fun Kz hKz => ?_)
    go_simp
    refine hKz _ _ (fun h => by cases h) ?_
    clear hKz Kz
    refine AnyJ.done (by kernel_rfl) ?_ _
    try simp only [Act.put, List.setIfInBounds_toArray, List.set_cons_zero, List.set_cons_succ]
    clear a0 a1 f0 f1 fl
    go_wp2_with fail
    go_meet
    exact ⟨_, rfl, rfl, RA.set2 _ _, (hbu4.setCell (hp := hA) (p := ⟨u3.heap.size, 0, none⟩) _).setCell (hp := hA) (p := ⟨u3.heap.size, 1, none⟩) _⟩
   ·
    go_simp
    obtain ⟨u3, hwu3⟩ : ∃ X, World.alloc u2 (.cells #[.int .i64 0, .int .i64 0] 33) = X := ⟨_, rfl⟩
    rw [hwu3]
    have hsu3 : Below u2.heap.size u2 u3 := by rw [← hwu3]; exact (Below.refl _ _).alloc (Nat.le_refl _) _
    have hbu3 : Below w1.heap.size w1 u3 := hbu2.trans (hsu3.mono hbu2.size)
    have hA : w1.heap.size ≤ u2.heap.size := hbu2.size
    have RA : Row u3 u2.heap.size [.int .i64 0, .int .i64 0] := by rw [← hwu3]; exact Row.new' _ _ _ rfl
    clear hwu3
    refine hKz _ _ (fun _ => HS.out _ hbu3) ?_
    clear hKz Kz
    refine AnyJ.one (i := 5) (by kernel_rfl) rfl (fun Kz hKz => ?_)
    go_simp
    refine (ih y HYS.out u3 (HYI.out.step hbu3) HYO.out ya yb ye HYV.out).mono ?_
    rintro e u4 ⟨rfl, hsu4⟩
    have hbu4 : Below w1.heap.size w1 u4 := hbu3.trans (hsu4.mono hbu3.size)
    have hS := HS.out _ hbu4
    refine hKz _ _ (fun _ => hS) ?_
    clear hKz Kz
    refine AnyJ.takeD (i := 6) (d := some 35) (v := ?_) rfl (by kernel_rfl) (by kernel_rfl) (by kernel_rfl) (by kernel_rfl) (by kernel_rfl) (fun _ _ _ h => h) (Or.inl ⟨by kernel_rfl, ?_⟩) hS ?_
    rotate_left
    ·
     intro w' hS
     obtain ⟨⟨sE0, sE1, sE2⟩, ⟨sV0, sV1, sV2, sV3⟩, sK0, sK1, sK2⟩ := hS
     go_simp
     try with_reducible rfl
    refine AnyJ.takeD (i := 7) (d := some 42) (v := ?_) rfl (by kernel_rfl) (by kernel_rfl) (by kernel_rfl) (by kernel_rfl) (by kernel_rfl) (fun _ _ _ h => h) (Or.inl ⟨by kernel_rfl, ?_⟩) hS ?_
    rotate_left
    ·
     intro w' hS
     obtain ⟨⟨sE0, sE1, sE2⟩, ⟨sV0, sV1, sV2, sV3⟩, sK0, sK1, sK2⟩ := hS
     go_simp
     try with_reducible rfl
    refine AnyJ.takeD (i := 8) (d := some 43) (v := ?_) rfl (by kernel_rfl) (by kernel_rfl) (by kernel_rfl) (by kernel_rfl) (by kernel_rfl) (fun _ _ _ h => h) (Or.inl ⟨by kernel_rfl, ?_⟩) hS ?_
    rotate_left
    ·
     intro w' hS
     obtain ⟨⟨sE0, sE1, sE2⟩, ⟨sV0, sV1, sV2, sV3⟩, sK0, sK1, sK2⟩ := hS
     go_simp
     try with_reducible rfl
    clear hS
    replace RA := RA.step hsu4
    have a0 := RA.cell 0 rfl
    have a1 := RA.cell 1 rfl
    have f0 := RA.frozen 0
    have f1 := RA.frozen 1
    have fl := RA.lt
    refine AnyJ.one (i := 10) (by kernel_rfl) rfl (fun Kz hKz => ?_)
    go_simp
    refine hKz _ _ (fun _ => HS.out _ ((hbu4.setCell (hp := hA) (p := ⟨u2.heap.size, 0, none⟩) _).setCell (hp := hA) (p := ⟨u2.heap.size, 1, none⟩) _)) ?_
    clear hKz Kz
    refine AnyJ.one (i := 11) (by kernel_rfl) rfl (fun Kz hKz => ?_)
    go_simp
    refine hKz _ _ (fun h => by cases h) ?_
    clear hKz Kz
    refine AnyJ.done (by kernel_rfl) ?_ _
    try simp only [Act.put, List.setIfInBounds_toArray, List.set_cons_zero, List.set_cons_succ]
    clear a0 a1 f0 f1 fl
    go_wp2_with fail
    go_meet
    exact ⟨_, rfl, rfl, RA.set2 _ _, (hbu4.setCell (hp := hA) (p := ⟨u2.heap.size, 0, none⟩) _).setCell (hp := hA) (p := ⟨u2.heap.size, 1, none⟩) _⟩
  case' rest =>
   obtain ⟨A, rfl, rfl, RA, hb2⟩ := hcut
   obtain ⟨w2, hw2⟩ : ∃ wd, wd = wc := ⟨_, rfl⟩
   subst hw2
   clear HS HYI
   have R_e_2 : Row w2 (w.heap.size) [.int .i64 op, .int .i64 n, .slice (some ⟨b, off, none⟩) m cap] := by (repeat' (first | (with_reducible assumption) | (with_reducible refine Row.new' _ _ _ (by first | rfl | (simp; done) | omega)) | (with_reducible first | refine Row.alloc ?_ _ | refine Row.drew ?_ | refine Row.step ?_ (by assumption) | refine Row.drewN ?_ _) | (with_reducible refine Row.set2' ?_ _ _; first | exact ⟨_, _, by assumption⟩ | exact ⟨_, _, Row.alloc (by assumption) _⟩) | (with_reducible refine Row.other ?_ (by first | omega | (simp; omega)) _)))
   have c_e_0_2 := R_e_2.cell 0 rfl
   have c_e_1_2 := R_e_2.cell 1 rfl
   have c_e_2_2 := R_e_2.cell 2 rfl
   have l_e_2 := R_e_2.lt
   have R_v_2 : Row w2 (w.heap.size + 1) [.int .i64 (v0), .int .i64 (v1), .int .i64 (v2), .int .i64 (v3)] := by (repeat' (first | (with_reducible assumption) | (with_reducible refine Row.new' _ _ _ (by first | rfl | (simp; done) | omega)) | (with_reducible first | refine Row.alloc ?_ _ | refine Row.drew ?_ | refine Row.step ?_ (by assumption) | refine Row.drewN ?_ _) | (with_reducible refine Row.set2' ?_ _ _; first | exact ⟨_, _, by assumption⟩ | exact ⟨_, _, Row.alloc (by assumption) _⟩) | (with_reducible refine Row.other ?_ (by first | omega | (simp; omega)) _)))
   have c_v_0_2 := R_v_2.cell 0 rfl
   have c_v_1_2 := R_v_2.cell 1 rfl
   have c_v_2_2 := R_v_2.cell 2 rfl
   have c_v_3_2 := R_v_2.cell 3 rfl
   have l_v_2 := R_v_2.lt
   have R_o_2 : Row w2 (w.heap.size + 1 + 1) [.int .i64 (0), .int .i64 (0)] := by (repeat' (first | (with_reducible assumption) | (with_reducible refine Row.new' _ _ _ (by first | rfl | (simp; done) | omega)) | (with_reducible first | refine Row.alloc ?_ _ | refine Row.drew ?_ | refine Row.step ?_ (by assumption) | refine Row.drewN ?_ _) | (with_reducible refine Row.set2' ?_ _ _; first | exact ⟨_, _, by assumption⟩ | exact ⟨_, _, Row.alloc (by assumption) _⟩) | (with_reducible refine Row.other ?_ (by first | omega | (simp; omega)) _)))
   have c_o_0_2 := R_o_2.cell 0 rfl
   have c_o_1_2 := R_o_2.cell 1 rfl
   have z_o_0_2 := R_o_2.frozen 0
   have z_o_1_2 := R_o_2.frozen 1
   have l_o_2 := R_o_2.lt
   have HB2 : Below w.heap.size w w2 := by (repeat' (first | (with_reducible first | exact Below.refl _ _ | assumption | exact Bw.out (by assumption) | refine bw_alloc ?_ _ | refine bw_step ?_ (by assumption) | refine Below.alloc ?_ ?_ _ | refine Below.drew ?_ | refine below_drewN ?_ _ | refine Below.setCell ?_ ?_ _ | refine below_step ?_ (by assumption) ?_ | exact Nat.le_refl _) | omega | (simp; omega) | (simp; done)))
   clear R_e_1 c_e_0_1 c_e_1_1 c_e_2_1 R_v_1 c_v_0_1 c_v_1_1 c_v_2_1 c_v_3_1 R_o_1 c_o_0_1 c_o_1_1 z_o_0_1 z_o_1_1 hb1 hw1
   by_cases hye : ye = 0
   ·
    have hye' : (ye != 0) = false := by simpa using hye
    have HYE := Lib.hid hye
    have HY := HYV
    have ca0 := RA.cell 0 rfl
    have ca1 := RA.cell 1 rfl
    have cal := RA.lt
    clear hye
    by_cases h15 : op = 15
    ·
     have h15' : (op == 15) = true := by simpa using h15
     have hx := ev_not (v := var4 v0 v1 v2 v3) (x := x) (HE.out.1.trans h15) hy.out (by rw [HYV.out]; exact HYE.out)
     rw [HR.out, HYV.out] at hx
     simp only [Prod.mk.injEq] at hx
     obtain ⟨hN, rfl, rfl⟩ := hx
     have HN : Hid (trI (ya == 0) = RN) := by show _ = _; rw [hN]; congr 1
     clear h15 hN
     go_wp2_with fail
     refine (R_truth_p (ya == 0) RN HN.out _).mono ?_
     rintro e w3 ⟨rfl, hb3⟩
     have R_e_3 : Row w3 (w.heap.size) [.int .i64 op, .int .i64 n, .slice (some ⟨b, off, none⟩) m cap] := by (repeat' (first | (with_reducible assumption) | (with_reducible refine Row.new' _ _ _ (by first | rfl | (simp; done) | omega)) | (with_reducible first | refine Row.alloc ?_ _ | refine Row.drew ?_ | refine Row.step ?_ (by assumption) | refine Row.drewN ?_ _) | (with_reducible refine Row.set2' ?_ _ _; first | exact ⟨_, _, by assumption⟩ | exact ⟨_, _, Row.alloc (by assumption) _⟩) | (with_reducible refine Row.other ?_ (by first | omega | (simp; omega)) _)))
     have c_e_0_3 := R_e_3.cell 0 rfl
     have c_e_1_3 := R_e_3.cell 1 rfl
     have c_e_2_3 := R_e_3.cell 2 rfl
     have l_e_3 := R_e_3.lt
     have R_v_3 : Row w3 (w.heap.size + 1) [.int .i64 (v0), .int .i64 (v1), .int .i64 (v2), .int .i64 (v3)] := by (repeat' (first | (with_reducible assumption) | (with_reducible refine Row.new' _ _ _ (by first | rfl | (simp; done) | omega)) | (with_reducible first | refine Row.alloc ?_ _ | refine Row.drew ?_ | refine Row.step ?_ (by assumption) | refine Row.drewN ?_ _) | (with_reducible refine Row.set2' ?_ _ _; first | exact ⟨_, _, by assumption⟩ | exact ⟨_, _, Row.alloc (by assumption) _⟩) | (with_reducible refine Row.other ?_ (by first | omega | (simp; omega)) _)))
     have c_v_0_3 := R_v_3.cell 0 rfl
     have c_v_1_3 := R_v_3.cell 1 rfl
     have c_v_2_3 := R_v_3.cell 2 rfl
     have c_v_3_3 := R_v_3.cell 3 rfl
     have l_v_3 := R_v_3.lt
     have R_o_3 : Row w3 (w.heap.size + 1 + 1) [.int .i64 (0), .int .i64 (0)] := by (repeat' (first | (with_reducible assumption) | (with_reducible refine Row.new' _ _ _ (by first | rfl | (simp; done) | omega)) | (with_reducible first | refine Row.alloc ?_ _ | refine Row.drew ?_ | refine Row.step ?_ (by assumption) | refine Row.drewN ?_ _) | (with_reducible refine Row.set2' ?_ _ _; first | exact ⟨_, _, by assumption⟩ | exact ⟨_, _, Row.alloc (by assumption) _⟩) | (with_reducible refine Row.other ?_ (by first | omega | (simp; omega)) _)))
     have c_o_0_3 := R_o_3.cell 0 rfl
     have c_o_1_3 := R_o_3.cell 1 rfl
     have z_o_0_3 := R_o_3.frozen 0
     have z_o_1_3 := R_o_3.frozen 1
     have l_o_3 := R_o_3.lt
     have HB3 : Below w.heap.size w w3 := by (repeat' (first | (with_reducible first | exact Below.refl _ _ | assumption | exact Bw.out (by assumption) | refine bw_alloc ?_ _ | refine bw_step ?_ (by assumption) | refine Below.alloc ?_ ?_ _ | refine Below.drew ?_ | refine below_drewN ?_ _ | refine Below.setCell ?_ ?_ _ | refine below_step ?_ (by assumption) ?_ | exact Nat.le_refl _) | omega | (simp; omega) | (simp; done)))
     clear R_e_2 c_e_0_2 c_e_1_2 c_e_2_2 R_v_2 c_v_0_2 c_v_1_2 c_v_2_2 c_v_3_2 R_o_2 c_o_0_2 c_o_1_2 z_o_0_2 z_o_1_2 hb2 HB2
     go_wp2_with fail
     have RP := R_o_3.set2 (.int .i64 (RN)) (.int .i64 (1))
     have q0 := RP.cell 0 rfl
     have q1 := RP.cell 1 rfl
     refine bodyPost_ret (v := .tuple #[.agg #[.int .i64 (RN), .int .i64 (1)], .int .i64 (0)]) (by simp [results, Tryz.results28, go_sem, q0, q1]) rfl ⟨rfl, by (repeat' (first | (with_reducible first | exact Below.refl _ _ | assumption | exact Bw.out (by assumption) | refine bw_alloc ?_ _ | refine bw_step ?_ (by assumption) | refine Below.alloc ?_ ?_ _ | refine Below.drew ?_ | refine below_drewN ?_ _ | refine Below.setCell ?_ ?_ _ | refine below_step ?_ (by assumption) ?_ | exact Nat.le_refl _) | omega | (simp; omega) | (simp; done)))⟩
    ·
     have h15' : (op == 15) = false := by simpa using h15
     have hm2 : 2 ≤ m := k2 h15
     by_cases h10 : op = 10
     ·
      have h10' : (op == 10) = true := by simpa using h10
      have hm3' : m = 3 := k3 h10
      by_cases hya : ya = 1
      ·
       have hya' : (ya == 1) = true := by simpa using hya
       have i1 : (1 : Int) < (m : Int) := by omega
       obtain ⟨z, b', off', hz, hzin, e', hlz, d0, d1, d2⟩ := HIN.out.kidAt (Below.refl _ w) (k := 1) (by have := HE.out.2.2.2; omega)
       have hh := HE.out.2.2.1
       rw [e'] at hh
       cases hh
       have HYS : Hid (z.size ≤ N) := by
        show _ ≤ _
        have := szL_mem hz.out
        have h2 := HX.out
        rw [x.size_eq] at h2
        omega
       have HYI := Lib.hid (hzin.step HB2)
       have HYO := Lib.hid (ok_kid HOK.out hz.out)
       obtain ⟨za, zb, ze, hzv⟩ : ∃ za zb ze, z.ev (var4 v0 v1 v2 v3) = (za, zb, ze) := ⟨_, _, _, rfl⟩
       have HYV := Lib.hid hzv
       have HS : Hid (∀ W, Below w2.heap.size w2 W → RdR w.heap.size v0 v1 v2 v3 op n b off m cap (off + 3) (off + 4) (off + 5) z W) := fun W h =>
        ⟨⟨(R_e_2.step h).cell 0 rfl, (R_e_2.step h).cell 1 rfl, (R_e_2.step h).cell 2 rfl⟩, ⟨(R_v_2.step h).cell 0 rfl, (R_v_2.step h).cell 1 rfl, (R_v_2.step h).cell 2 rfl, (R_v_2.step h).cell 3 rfl⟩,
         ((HB2.trans (h.mono HB2.size)).cell (p := ⟨b, _, none⟩) hlz).trans d0, ((HB2.trans (h.mono HB2.size)).cell (p := ⟨b, _, none⟩) hlz).trans d1, ((HB2.trans (h.mono HB2.size)).cell (p := ⟨b, _, none⟩) hlz).trans d2⟩
       clear hzin e' d0 d1 d2
       have hx := ev_then (v := var4 v0 v1 v2 v3) (x := x) (HE.out.1.trans h10) hy.out (by rw [HY.out]; exact HYE.out) (by rw [HY.out]; exact hya) hz.out
       rw [HR.out, hzv] at hx
       simp only [Prod.mk.injEq] at hx
       obtain ⟨hx1, hx2, hx3⟩ := hx
       subst RN RD RE
       clear h10 hya hzv
       go_upto_region 14 with fail
       refine AnyJ.beginP (RdR w.heap.size v0 v1 v2 v3 op n b off m cap (off + 3) (off + 4) (off + 5) z) (fun j => decide (j ≤ 7)) (by kernel_rfl) (HS.out _ (Below.refl _ _).drew) (fun hS => ?_)
       obtain ⟨u2, hu2⟩ : ∃ X, World.drew w2 = X := ⟨_, rfl⟩
       have hbu2 : Below w2.heap.size w2 u2 := by rw [← hu2]; exact (Below.refl _ _).drew
       rw [hu2] at hS ⊢
       clear hu2
       refine AnyJ.takeD (i := 0) (d := some 63) (v := ?_) rfl (by kernel_rfl) (by kernel_rfl) (by kernel_rfl) (by kernel_rfl) (by kernel_rfl) (fun _ _ _ h => h) (Or.inl ⟨by kernel_rfl, ?_⟩) hS ?_
       rotate_left
       ·
        intro w' hS
        obtain ⟨⟨sE0, sE1, sE2⟩, ⟨sV0, sV1, sV2, sV3⟩, sK0, sK1, sK2⟩ := hS
        go_simp
        try with_reducible rfl
       refine AnyJ.takeD (i := 1) (d := some 64) (v := ?_) rfl (by kernel_rfl) (by kernel_rfl) (by kernel_rfl) (by kernel_rfl) (by kernel_rfl) (fun _ _ _ h => h) (Or.inl ⟨by kernel_rfl, ?_⟩) hS ?_
       rotate_left
       ·
        intro w' hS
        obtain ⟨⟨sE0, sE1, sE2⟩, ⟨sV0, sV1, sV2, sV3⟩, sK0, sK1, sK2⟩ := hS
        go_simp
        try with_reducible rfl
       refine AnyJ.takeD (i := 2) (d := some 65) (v := ?_) rfl (by kernel_rfl) (by kernel_rfl) (by kernel_rfl) (by kernel_rfl) (by kernel_rfl) (fun _ _ _ h => h) (Or.inl ⟨by kernel_rfl, ?_⟩) hS ?_
       rotate_left
       ·
        intro w' hS
        obtain ⟨⟨sE0, sE1, sE2⟩, ⟨sV0, sV1, sV2, sV3⟩, sK0, sK1, sK2⟩ := hS
        go_simp
        try with_reducible rfl
       refine AnyJ.takeD (i := 3) (d := some 66) (v := ?_) rfl (by kernel_rfl) (by kernel_rfl) (by kernel_rfl) (by kernel_rfl) (by kernel_rfl) (fun _ _ _ h => h) (Or.inl ⟨by kernel_rfl, ?_⟩) hS ?_
       rotate_left
       ·
        intro w' hS
        obtain ⟨⟨sE0, sE1, sE2⟩, ⟨sV0, sV1, sV2, sV3⟩, sK0, sK1, sK2⟩ := hS
        go_simp
        try with_reducible rfl
       refine AnyJ.takeD (i := 4) (d := some 67) (v := ?_) rfl (by kernel_rfl) (by kernel_rfl) (by kernel_rfl) (by kernel_rfl) (by kernel_rfl) (fun _ _ _ h => h) (Or.inl ⟨by kernel_rfl, ?_⟩) hS ?_
       rotate_left
       ·
        intro w' hS
        obtain ⟨⟨sE0, sE1, sE2⟩, ⟨sV0, sV1, sV2, sV3⟩, sK0, sK1, sK2⟩ := hS
        go_simp
        try with_reducible rfl
       clear hS
       refine AnyJ.one (i := 5) (by kernel_rfl) rfl (fun Kz hKz => ?_)
       go_simp
       refine (ih z HYS.out u2 (HYI.out.step hbu2) HYO.out za zb ze HYV.out).mono ?_
       rintro e w3 ⟨rfl, hs3⟩
       have hb3 : Below w2.heap.size w2 w3 := hbu2.trans (hs3.mono hbu2.size)
       have hS := HS.out _ hb3
       refine hKz _ _ (fun _ => hS) ?_
       clear hKz Kz hs3 hbu2
       refine AnyJ.takeD (i := 6) (d := some 69) (v := ?_) rfl (by kernel_rfl) (by kernel_rfl) (by kernel_rfl) (by kernel_rfl) (by kernel_rfl) (fun _ _ _ h => h) (Or.inl ⟨by kernel_rfl, ?_⟩) hS ?_
       rotate_left
       ·
        intro w' hS
        obtain ⟨⟨sE0, sE1, sE2⟩, ⟨sV0, sV1, sV2, sV3⟩, sK0, sK1, sK2⟩ := hS
        go_simp
        try with_reducible rfl
       refine AnyJ.takeD (i := 7) (d := some 70) (v := ?_) rfl (by kernel_rfl) (by kernel_rfl) (by kernel_rfl) (by kernel_rfl) (by kernel_rfl) (fun _ _ _ h => h) (Or.inl ⟨by kernel_rfl, ?_⟩) hS ?_
       rotate_left
       ·
        intro w' hS
        obtain ⟨⟨sE0, sE1, sE2⟩, ⟨sV0, sV1, sV2, sV3⟩, sK0, sK1, sK2⟩ := hS
        go_simp
        try with_reducible rfl
       clear hS
       have R_e_3 : Row w3 (w.heap.size) [.int .i64 op, .int .i64 n, .slice (some ⟨b, off, none⟩) m cap] := by (repeat' (first | (with_reducible assumption) | (with_reducible refine Row.new' _ _ _ (by first | rfl | (simp; done) | omega)) | (with_reducible first | refine Row.alloc ?_ _ | refine Row.drew ?_ | refine Row.step ?_ (by assumption) | refine Row.drewN ?_ _) | (with_reducible refine Row.set2' ?_ _ _; first | exact ⟨_, _, by assumption⟩ | exact ⟨_, _, Row.alloc (by assumption) _⟩) | (with_reducible refine Row.other ?_ (by first | omega | (simp; omega)) _)))
       have c_e_0_3 := R_e_3.cell 0 rfl
       have c_e_1_3 := R_e_3.cell 1 rfl
       have c_e_2_3 := R_e_3.cell 2 rfl
       have l_e_3 := R_e_3.lt
       have R_v_3 : Row w3 (w.heap.size + 1) [.int .i64 (v0), .int .i64 (v1), .int .i64 (v2), .int .i64 (v3)] := by (repeat' (first | (with_reducible assumption) | (with_reducible refine Row.new' _ _ _ (by first | rfl | (simp; done) | omega)) | (with_reducible first | refine Row.alloc ?_ _ | refine Row.drew ?_ | refine Row.step ?_ (by assumption) | refine Row.drewN ?_ _) | (with_reducible refine Row.set2' ?_ _ _; first | exact ⟨_, _, by assumption⟩ | exact ⟨_, _, Row.alloc (by assumption) _⟩) | (with_reducible refine Row.other ?_ (by first | omega | (simp; omega)) _)))
       have c_v_0_3 := R_v_3.cell 0 rfl
       have c_v_1_3 := R_v_3.cell 1 rfl
       have c_v_2_3 := R_v_3.cell 2 rfl
       have c_v_3_3 := R_v_3.cell 3 rfl
       have l_v_3 := R_v_3.lt
       have R_o_3 : Row w3 (w.heap.size + 1 + 1) [.int .i64 (0), .int .i64 (0)] := by (repeat' (first | (with_reducible assumption) | (with_reducible refine Row.new' _ _ _ (by first | rfl | (simp; done) | omega)) | (with_reducible first | refine Row.alloc ?_ _ | refine Row.drew ?_ | refine Row.step ?_ (by assumption) | refine Row.drewN ?_ _) | (with_reducible refine Row.set2' ?_ _ _; first | exact ⟨_, _, by assumption⟩ | exact ⟨_, _, Row.alloc (by assumption) _⟩) | (with_reducible refine Row.other ?_ (by first | omega | (simp; omega)) _)))
       have c_o_0_3 := R_o_3.cell 0 rfl
       have c_o_1_3 := R_o_3.cell 1 rfl
       have z_o_0_3 := R_o_3.frozen 0
       have z_o_1_3 := R_o_3.frozen 1
       have l_o_3 := R_o_3.lt
       have HB3 : Below w.heap.size w w3 := by (repeat' (first | (with_reducible first | exact Below.refl _ _ | assumption | exact Bw.out (by assumption) | refine bw_alloc ?_ _ | refine bw_step ?_ (by assumption) | refine Below.alloc ?_ ?_ _ | refine Below.drew ?_ | refine below_drewN ?_ _ | refine Below.setCell ?_ ?_ _ | refine below_step ?_ (by assumption) ?_ | exact Nat.le_refl _) | omega | (simp; omega) | (simp; done)))
       clear R_e_2 c_e_0_2 c_e_1_2 c_e_2_2 R_v_2 c_v_0_2 c_v_1_2 c_v_2_2 c_v_3_2 R_o_2 c_o_0_2 c_o_1_2 z_o_0_2 z_o_1_2 hb2 HB2
       refine AnyJ.one (i := 8) (by kernel_rfl) rfl (fun Kz hKz => ?_)
       go_simp
       refine hKz _ _ (fun h => by simp at h) ?_
       clear hKz Kz
       refine AnyJ.one (i := 9) (by kernel_rfl) rfl (fun Kz hKz => ?_)
       go_simp
       refine hKz _ _ (fun h => by simp at h) ?_
       clear hKz Kz
       refine AnyJ.done (by kernel_rfl) ?_ _
       try simp only [Act.put, List.setIfInBounds_toArray, List.set_cons_zero, List.set_cons_succ]
       go_wp2_with fail
       have RP := R_o_3.set2 (.int .i64 (za)) (.int .i64 (zb))
       have q0 := RP.cell 0 rfl
       have q1 := RP.cell 1 rfl
       refine bodyPost_ret (v := .tuple #[.agg #[.int .i64 (za), .int .i64 (zb)], .int .i64 (ze)]) (by simp [results, Tryz.results28, go_sem, q0, q1]) rfl ⟨rfl, by (repeat' (first | (with_reducible first | exact Below.refl _ _ | assumption | exact Bw.out (by assumption) | refine bw_alloc ?_ _ | refine bw_step ?_ (by assumption) | refine Below.alloc ?_ ?_ _ | refine Below.drew ?_ | refine below_drewN ?_ _ | refine Below.setCell ?_ ?_ _ | refine below_step ?_ (by assumption) ?_ | exact Nat.le_refl _) | omega | (simp; omega) | (simp; done)))⟩
      ·
       have hya' : (ya == 1) = false := by simpa using hya
       have i2 : (2 : Int) < (m : Int) := by omega
       obtain ⟨z, b', off', hz, hzin, e', hlz, d0, d1, d2⟩ := HIN.out.kidAt (Below.refl _ w) (k := 2) (by have := HE.out.2.2.2; omega)
       have hh := HE.out.2.2.1
       rw [e'] at hh
       cases hh
       have HYS : Hid (z.size ≤ N) := by
        show _ ≤ _
        have := szL_mem hz.out
        have h2 := HX.out
        rw [x.size_eq] at h2
        omega
       have HYI := Lib.hid (hzin.step HB2)
       have HYO := Lib.hid (ok_kid HOK.out hz.out)
       obtain ⟨za, zb, ze, hzv⟩ : ∃ za zb ze, z.ev (var4 v0 v1 v2 v3) = (za, zb, ze) := ⟨_, _, _, rfl⟩
       have HYV := Lib.hid hzv
       have HS : Hid (∀ W, Below w2.heap.size w2 W → RdR w.heap.size v0 v1 v2 v3 op n b off m cap (off + 6) (off + 7) (off + 8) z W) := fun W h =>
        ⟨⟨(R_e_2.step h).cell 0 rfl, (R_e_2.step h).cell 1 rfl, (R_e_2.step h).cell 2 rfl⟩, ⟨(R_v_2.step h).cell 0 rfl, (R_v_2.step h).cell 1 rfl, (R_v_2.step h).cell 2 rfl, (R_v_2.step h).cell 3 rfl⟩,
         ((HB2.trans (h.mono HB2.size)).cell (p := ⟨b, _, none⟩) hlz).trans d0, ((HB2.trans (h.mono HB2.size)).cell (p := ⟨b, _, none⟩) hlz).trans d1, ((HB2.trans (h.mono HB2.size)).cell (p := ⟨b, _, none⟩) hlz).trans d2⟩
       clear hzin e' d0 d1 d2
       have hx := ev_else (v := var4 v0 v1 v2 v3) (x := x) (HE.out.1.trans h10) hy.out (by rw [HY.out]; exact HYE.out) (by rw [HY.out]; exact hya) hz.out
       rw [HR.out, hzv] at hx
       simp only [Prod.mk.injEq] at hx
       obtain ⟨hx1, hx2, hx3⟩ := hx
       subst RN RD RE
       clear h10 hya hzv
       go_upto_region 16 with fail
       refine AnyJ.beginP (RdR w.heap.size v0 v1 v2 v3 op n b off m cap (off + 6) (off + 7) (off + 8) z) (fun j => decide (j ≤ 7)) (by kernel_rfl) (HS.out _ (Below.refl _ _).drew) (fun hS => ?_)
       obtain ⟨u2, hu2⟩ : ∃ X, World.drew w2 = X := ⟨_, rfl⟩
       have hbu2 : Below w2.heap.size w2 u2 := by rw [← hu2]; exact (Below.refl _ _).drew
       rw [hu2] at hS ⊢
       clear hu2
       refine AnyJ.takeD (i := 0) (d := some 74) (v := ?_) rfl (by kernel_rfl) (by kernel_rfl) (by kernel_rfl) (by kernel_rfl) (by kernel_rfl) (fun _ _ _ h => h) (Or.inl ⟨by kernel_rfl, ?_⟩) hS ?_
       rotate_left
       ·
        intro w' hS
        obtain ⟨⟨sE0, sE1, sE2⟩, ⟨sV0, sV1, sV2, sV3⟩, sK0, sK1, sK2⟩ := hS
        go_simp
        try with_reducible rfl
       refine AnyJ.takeD (i := 1) (d := some 75) (v := ?_) rfl (by kernel_rfl) (by kernel_rfl) (by kernel_rfl) (by kernel_rfl) (by kernel_rfl) (fun _ _ _ h => h) (Or.inl ⟨by kernel_rfl, ?_⟩) hS ?_
       rotate_left
       ·
        intro w' hS
        obtain ⟨⟨sE0, sE1, sE2⟩, ⟨sV0, sV1, sV2, sV3⟩, sK0, sK1, sK2⟩ := hS
        go_simp
        try with_reducible rfl
       refine AnyJ.takeD (i := 2) (d := some 76) (v := ?_) rfl (by kernel_rfl) (by kernel_rfl) (by kernel_rfl) (by kernel_rfl) (by kernel_rfl) (fun _ _ _ h => h) (Or.inl ⟨by kernel_rfl, ?_⟩) hS ?_
       rotate_left
       ·
        intro w' hS
        obtain ⟨⟨sE0, sE1, sE2⟩, ⟨sV0, sV1, sV2, sV3⟩, sK0, sK1, sK2⟩ := hS
        go_simp
        try with_reducible rfl
       refine AnyJ.takeD (i := 3) (d := some 77) (v := ?_) rfl (by kernel_rfl) (by kernel_rfl) (by kernel_rfl) (by kernel_rfl) (by kernel_rfl) (fun _ _ _ h => h) (Or.inl ⟨by kernel_rfl, ?_⟩) hS ?_
       rotate_left
       ·
        intro w' hS
        obtain ⟨⟨sE0, sE1, sE2⟩, ⟨sV0, sV1, sV2, sV3⟩, sK0, sK1, sK2⟩ := hS
        go_simp
        try with_reducible rfl
       refine AnyJ.takeD (i := 4) (d := some 78) (v := ?_) rfl (by kernel_rfl) (by kernel_rfl) (by kernel_rfl) (by kernel_rfl) (by kernel_rfl) (fun _ _ _ h => h) (Or.inl ⟨by kernel_rfl, ?_⟩) hS ?_
       rotate_left
       ·
        intro w' hS
        obtain ⟨⟨sE0, sE1, sE2⟩, ⟨sV0, sV1, sV2, sV3⟩, sK0, sK1, sK2⟩ := hS
        go_simp
        try with_reducible rfl
       clear hS
       refine AnyJ.one (i := 5) (by kernel_rfl) rfl (fun Kz hKz => ?_)
       go_simp
       refine (ih z HYS.out u2 (HYI.out.step hbu2) HYO.out za zb ze HYV.out).mono ?_
       rintro e w3 ⟨rfl, hs3⟩
       have hb3 : Below w2.heap.size w2 w3 := hbu2.trans (hs3.mono hbu2.size)
       have hS := HS.out _ hb3
       refine hKz _ _ (fun _ => hS) ?_
       clear hKz Kz hs3 hbu2
       refine AnyJ.takeD (i := 6) (d := some 80) (v := ?_) rfl (by kernel_rfl) (by kernel_rfl) (by kernel_rfl) (by kernel_rfl) (by kernel_rfl) (fun _ _ _ h => h) (Or.inl ⟨by kernel_rfl, ?_⟩) hS ?_
       rotate_left
       ·
        intro w' hS
        obtain ⟨⟨sE0, sE1, sE2⟩, ⟨sV0, sV1, sV2, sV3⟩, sK0, sK1, sK2⟩ := hS
        go_simp
        try with_reducible rfl
       refine AnyJ.takeD (i := 7) (d := some 81) (v := ?_) rfl (by kernel_rfl) (by kernel_rfl) (by kernel_rfl) (by kernel_rfl) (by kernel_rfl) (fun _ _ _ h => h) (Or.inl ⟨by kernel_rfl, ?_⟩) hS ?_
       rotate_left
       ·
        intro w' hS
        obtain ⟨⟨sE0, sE1, sE2⟩, ⟨sV0, sV1, sV2, sV3⟩, sK0, sK1, sK2⟩ := hS
        go_simp
        try with_reducible rfl
       clear hS
       have R_e_3 : Row w3 (w.heap.size) [.int .i64 op, .int .i64 n, .slice (some ⟨b, off, none⟩) m cap] := by (repeat' (first | (with_reducible assumption) | (with_reducible refine Row.new' _ _ _ (by first | rfl | (simp; done) | omega)) | (with_reducible first | refine Row.alloc ?_ _ | refine Row.drew ?_ | refine Row.step ?_ (by assumption) | refine Row.drewN ?_ _) | (with_reducible refine Row.set2' ?_ _ _; first | exact ⟨_, _, by assumption⟩ | exact ⟨_, _, Row.alloc (by assumption) _⟩) | (with_reducible refine Row.other ?_ (by first | omega | (simp; omega)) _)))
       have c_e_0_3 := R_e_3.cell 0 rfl
       have c_e_1_3 := R_e_3.cell 1 rfl
       have c_e_2_3 := R_e_3.cell 2 rfl
       have l_e_3 := R_e_3.lt
       have R_v_3 : Row w3 (w.heap.size + 1) [.int .i64 (v0), .int .i64 (v1), .int .i64 (v2), .int .i64 (v3)] := by (repeat' (first | (with_reducible assumption) | (with_reducible refine Row.new' _ _ _ (by first | rfl | (simp; done) | omega)) | (with_reducible first | refine Row.alloc ?_ _ | refine Row.drew ?_ | refine Row.step ?_ (by assumption) | refine Row.drewN ?_ _) | (with_reducible refine Row.set2' ?_ _ _; first | exact ⟨_, _, by assumption⟩ | exact ⟨_, _, Row.alloc (by assumption) _⟩) | (with_reducible refine Row.other ?_ (by first | omega | (simp; omega)) _)))
       have c_v_0_3 := R_v_3.cell 0 rfl
       have c_v_1_3 := R_v_3.cell 1 rfl
       have c_v_2_3 := R_v_3.cell 2 rfl
       have c_v_3_3 := R_v_3.cell 3 rfl
       have l_v_3 := R_v_3.lt
       have R_o_3 : Row w3 (w.heap.size + 1 + 1) [.int .i64 (0), .int .i64 (0)] := by (repeat' (first | (with_reducible assumption) | (with_reducible refine Row.new' _ _ _ (by first | rfl | (simp; done) | omega)) | (with_reducible first | refine Row.alloc ?_ _ | refine Row.drew ?_ | refine Row.step ?_ (by assumption) | refine Row.drewN ?_ _) | (with_reducible refine Row.set2' ?_ _ _; first | exact ⟨_, _, by assumption⟩ | exact ⟨_, _, Row.alloc (by assumption) _⟩) | (with_reducible refine Row.other ?_ (by first | omega | (simp; omega)) _)))
       have c_o_0_3 := R_o_3.cell 0 rfl
       have c_o_1_3 := R_o_3.cell 1 rfl
       have z_o_0_3 := R_o_3.frozen 0
       have z_o_1_3 := R_o_3.frozen 1
       have l_o_3 := R_o_3.lt
       have HB3 : Below w.heap.size w w3 := by (repeat' (first | (with_reducible first | exact Below.refl _ _ | assumption | exact Bw.out (by assumption) | refine bw_alloc ?_ _ | refine bw_step ?_ (by assumption) | refine Below.alloc ?_ ?_ _ | refine Below.drew ?_ | refine below_drewN ?_ _ | refine Below.setCell ?_ ?_ _ | refine below_step ?_ (by assumption) ?_ | exact Nat.le_refl _) | omega | (simp; omega) | (simp; done)))
       clear R_e_2 c_e_0_2 c_e_1_2 c_e_2_2 R_v_2 c_v_0_2 c_v_1_2 c_v_2_2 c_v_3_2 R_o_2 c_o_0_2 c_o_1_2 z_o_0_2 z_o_1_2 hb2 HB2
       refine AnyJ.one (i := 8) (by kernel_rfl) rfl (fun Kz hKz => ?_)
       go_simp
       refine hKz _ _ (fun h => by simp at h) ?_
       clear hKz Kz
       refine AnyJ.one (i := 9) (by kernel_rfl) rfl (fun Kz hKz => ?_)
       go_simp
       refine hKz _ _ (fun h => by simp at h) ?_
       clear hKz Kz
       refine AnyJ.done (by kernel_rfl) ?_ _
       try simp only [Act.put, List.setIfInBounds_toArray, List.set_cons_zero, List.set_cons_succ]
       go_wp2_with fail
       have RP := R_o_3.set2 (.int .i64 (za)) (.int .i64 (zb))
       have q0 := RP.cell 0 rfl
       have q1 := RP.cell 1 rfl
       refine bodyPost_ret (v := .tuple #[.agg #[.int .i64 (za), .int .i64 (zb)], .int .i64 (ze)]) (by simp [results, Tryz.results28, go_sem, q0, q1]) rfl ⟨rfl, by (repeat' (first | (with_reducible first | exact Below.refl _ _ | assumption | exact Bw.out (by assumption) | refine bw_alloc ?_ _ | refine bw_step ?_ (by assumption) | refine Below.alloc ?_ ?_ _ | refine Below.drew ?_ | refine below_drewN ?_ _ | refine Below.setCell ?_ ?_ _ | refine below_step ?_ (by assumption) ?_ | exact Nat.le_refl _) | omega | (simp; omega) | (simp; done)))⟩
     ·
      have h10' : (op == 10) = false := by simpa using h10
      have i1 : (1 : Int) < (m : Int) := by omega
      obtain ⟨z, b', off', hz, hzin, e', hlz, d0, d1, d2⟩ := HIN.out.kidAt (Below.refl _ w) (k := 1) (by have := HE.out.2.2.2; omega)
      have hh := HE.out.2.2.1
      rw [e'] at hh
      cases hh
      have HYS : Hid (z.size ≤ N) := by
       show _ ≤ _
       have := szL_mem hz.out
       have h2 := HX.out
       rw [x.size_eq] at h2
       omega
      have HYI := Lib.hid (hzin.step HB2)
      have HYO := Lib.hid (ok_kid HOK.out hz.out)
      obtain ⟨za, zb, ze, hzv⟩ : ∃ za zb ze, z.ev (var4 v0 v1 v2 v3) = (za, zb, ze) := ⟨_, _, _, rfl⟩
      have HYV := Lib.hid hzv
      have HS : Hid (∀ W, Below w2.heap.size w2 W → RdR w.heap.size v0 v1 v2 v3 op n b off m cap (off + 3) (off + 4) (off + 5) z W) := fun W h =>
       ⟨⟨(R_e_2.step h).cell 0 rfl, (R_e_2.step h).cell 1 rfl, (R_e_2.step h).cell 2 rfl⟩, ⟨(R_v_2.step h).cell 0 rfl, (R_v_2.step h).cell 1 rfl, (R_v_2.step h).cell 2 rfl, (R_v_2.step h).cell 3 rfl⟩,
        ((HB2.trans (h.mono HB2.size)).cell (p := ⟨b, _, none⟩) hlz).trans d0, ((HB2.trans (h.mono HB2.size)).cell (p := ⟨b, _, none⟩) hlz).trans d1, ((HB2.trans (h.mono HB2.size)).cell (p := ⟨b, _, none⟩) hlz).trans d2⟩
      clear hzin e' d0 d1 d2
      have HZV := HYV
      go_upto_region 17 with fail
      clear ca0 ca1 cal
      go_cut [8, 7] from 82 to 90 (fun v u wx => ∃ C : Nat, v = .pointer (some ⟨C, 0, none⟩) ∧ u = .int .i64 ze ∧ Row wx C [.int .i64 za, .int .i64 zb] ∧ Below w2.heap.size w2 wx)
      case first =>
       clear hzv
       refine AnyJ.beginP (RdR w.heap.size v0 v1 v2 v3 op n b off m cap (off + 3) (off + 4) (off + 5) z) (fun j => decide (j ≤ 10)) (by kernel_rfl) (HS.out _ (Below.refl _ _).drew) (fun hS => ?_)
       obtain ⟨u2, hu2⟩ : ∃ X, World.drew w2 = X := ⟨_, rfl⟩
       have hbu2 : Below w2.heap.size w2 u2 := by rw [← hu2]; exact (Below.refl _ _).drew
       rw [hu2] at hS ⊢
       clear hu2
       refine AnyJ.takeD (i := 0) (d := some 83) (v := ?_) rfl (by kernel_rfl) (by kernel_rfl) (by kernel_rfl) (by kernel_rfl) (by kernel_rfl) (fun _ _ _ h => h) (Or.inl ⟨by kernel_rfl, ?_⟩) hS ?_
       rotate_left
       ·
        intro w' hS
        obtain ⟨⟨sE0, sE1, sE2⟩, ⟨sV0, sV1, sV2, sV3⟩, sK0, sK1, sK2⟩ := hS
        go_simp
        try with_reducible rfl
       refine AnyJ.takeD (i := 1) (d := some 84) (v := ?_) rfl (by kernel_rfl) (by kernel_rfl) (by kernel_rfl) (by kernel_rfl) (by kernel_rfl) (fun _ _ _ h => h) (Or.inl ⟨by kernel_rfl, ?_⟩) hS ?_
       rotate_left
       ·
        intro w' hS
        obtain ⟨⟨sE0, sE1, sE2⟩, ⟨sV0, sV1, sV2, sV3⟩, sK0, sK1, sK2⟩ := hS
        go_simp
        try with_reducible rfl
       refine AnyJ.takeD (i := 2) (d := some 85) (v := ?_) rfl (by kernel_rfl) (by kernel_rfl) (by kernel_rfl) (by kernel_rfl) (by kernel_rfl) (fun _ _ _ h => h) (Or.inl ⟨by kernel_rfl, ?_⟩) hS ?_
       rotate_left
       ·
        intro w' hS
        obtain ⟨⟨sE0, sE1, sE2⟩, ⟨sV0, sV1, sV2, sV3⟩, sK0, sK1, sK2⟩ := hS
        go_simp
        try with_reducible rfl
       refine AnyJ.takeD (i := 3) (d := some 86) (v := ?_) rfl (by kernel_rfl) (by kernel_rfl) (by kernel_rfl) (by kernel_rfl) (by kernel_rfl) (fun _ _ _ h => h) (Or.inl ⟨by kernel_rfl, ?_⟩) hS ?_
       rotate_left
       ·
        intro w' hS
        obtain ⟨⟨sE0, sE1, sE2⟩, ⟨sV0, sV1, sV2, sV3⟩, sK0, sK1, sK2⟩ := hS
        go_simp
        try with_reducible rfl
       refine AnyJ.takeD (i := 4) (d := some 87) (v := ?_) rfl (by kernel_rfl) (by kernel_rfl) (by kernel_rfl) (by kernel_rfl) (by kernel_rfl) (fun _ _ _ h => h) (Or.inl ⟨by kernel_rfl, ?_⟩) hS ?_
       rotate_left
       ·
        intro w' hS
        obtain ⟨⟨sE0, sE1, sE2⟩, ⟨sV0, sV1, sV2, sV3⟩, sK0, sK1, sK2⟩ := hS
        go_simp
        try with_reducible rfl
       clear hS
       refine AnyJ.two (i := 5) (j := 9) (by kernel_rfl) rfl rfl (fun Kz hKz => ?_) (fun Kz hKz => ?_)
       ·
        go_simp
        refine (ih z HYS.out u2 (HYI.out.step hbu2) HYO.out za zb ze HYV.out).mono ?_
        rintro e u3 ⟨rfl, hsu3⟩
        have hbu3 : Below w2.heap.size w2 u3 := hbu2.trans (hsu3.mono hbu2.size)
        have hS := HS.out _ hbu3
        refine hKz _ _ (fun _ => hS) ?_
        clear hKz Kz
        refine AnyJ.takeD (i := 6) (d := some 82) (v := ?_) rfl (by kernel_rfl) (by kernel_rfl) (by kernel_rfl) (by kernel_rfl) (by kernel_rfl) (fun _ _ _ h => h) (Or.inl ⟨by kernel_rfl, ?_⟩) hS ?_
        rotate_left
        ·
         intro w' hS
         obtain ⟨⟨sE0, sE1, sE2⟩, ⟨sV0, sV1, sV2, sV3⟩, sK0, sK1, sK2⟩ := hS
         go_simp
         try with_reducible rfl
        refine AnyJ.takeD (i := 7) (d := some 89) (v := ?_) rfl (by kernel_rfl) (by kernel_rfl) (by kernel_rfl) (by kernel_rfl) (by kernel_rfl) (fun _ _ _ h => h) (Or.inl ⟨by kernel_rfl, ?_⟩) hS ?_
        rotate_left
        ·
         intro w' hS
         obtain ⟨⟨sE0, sE1, sE2⟩, ⟨sV0, sV1, sV2, sV3⟩, sK0, sK1, sK2⟩ := hS
         go_simp
         try with_reducible rfl
        refine AnyJ.takeD (i := 8) (d := some 90) (v := ?_) rfl (by kernel_rfl) (by kernel_rfl) (by kernel_rfl) (by kernel_rfl) (by kernel_rfl) (fun _ _ _ h => h) (Or.inl ⟨by kernel_rfl, ?_⟩) hS ?_
        rotate_left
        ·
         intro w' hS
         obtain ⟨⟨sE0, sE1, sE2⟩, ⟨sV0, sV1, sV2, sV3⟩, sK0, sK1, sK2⟩ := hS
         go_simp
         try with_reducible rfl
        clear hS
        refine AnyJ.one (i := 9) (by kernel_rfl) rfl (fun Kz hKz => ?_)
        go_simp
        obtain ⟨u4, hwu4⟩ : ∃ X, World.alloc u3 (.cells #[.int .i64 0, .int .i64 0] 33) = X := ⟨_, rfl⟩
        rw [hwu4]
        have hsu4 : Below u3.heap.size u3 u4 := by rw [← hwu4]; exact (Below.refl _ _).alloc (Nat.le_refl _) _
        have hbu4 : Below w2.heap.size w2 u4 := hbu3.trans (hsu4.mono hbu3.size)
        have hA : w2.heap.size ≤ u3.heap.size := hbu3.size
        have RA : Row u4 u3.heap.size [.int .i64 0, .int .i64 0] := by rw [← hwu4]; exact Row.new' _ _ _ rfl
        clear hwu4
        refine hKz _ _ (fun _ => HS.out _ hbu4) ?_
        clear hKz Kz
        have a0 := RA.cell 0 rfl
        have a1 := RA.cell 1 rfl
        have f0 := RA.frozen 0
        have f1 := RA.frozen 1
        have fl := RA.lt
        refine AnyJ.one (i := 10) (by kernel_rfl) rfl (fun Kz hKz => ?_)
        go_simp
        refine hKz _ _ (fun _ => HS.out _ ((hbu4.setCell (hp := hA) (p := ⟨u3.heap.size, 0, none⟩) _).setCell (hp := hA) (p := ⟨u3.heap.size, 1, none⟩) _)) ?_
        clear hKz Kz
        refine AnyJ.one (i := 11) (by kernel_rfl) rfl (fun Kz hKz => ?_)
        go_simp
        refine hKz _ _ (fun h => by cases h) ?_
        clear hKz Kz
        refine AnyJ.done (by kernel_rfl) ?_ _
        try simp only [Act.put, List.setIfInBounds_toArray, List.set_cons_zero, List.set_cons_succ]
        clear a0 a1 f0 f1 fl
        go_wp2_with fail
        go_meet
        exact ⟨_, rfl, rfl, RA.set2 _ _, (hbu4.setCell (hp := hA) (p := ⟨u3.heap.size, 0, none⟩) _).setCell (hp := hA) (p := ⟨u3.heap.size, 1, none⟩) _⟩
       ·
        go_simp
        obtain ⟨u3, hwu3⟩ : ∃ X, World.alloc u2 (.cells #[.int .i64 0, .int .i64 0] 33) = X := ⟨_, rfl⟩
        rw [hwu3]
        have hsu3 : Below u2.heap.size u2 u3 := by rw [← hwu3]; exact (Below.refl _ _).alloc (Nat.le_refl _) _
        have hbu3 : Below w2.heap.size w2 u3 := hbu2.trans (hsu3.mono hbu2.size)
        have hA : w2.heap.size ≤ u2.heap.size := hbu2.size
        have RA : Row u3 u2.heap.size [.int .i64 0, .int .i64 0] := by rw [← hwu3]; exact Row.new' _ _ _ rfl
        clear hwu3
        refine hKz _ _ (fun _ => HS.out _ hbu3) ?_
        clear hKz Kz
        refine AnyJ.one (i := 5) (by kernel_rfl) rfl (fun Kz hKz => ?_)
        go_simp
        refine (ih z HYS.out u3 (HYI.out.step hbu3) HYO.out za zb ze HYV.out).mono ?_
        rintro e u4 ⟨rfl, hsu4⟩
        have hbu4 : Below w2.heap.size w2 u4 := hbu3.trans (hsu4.mono hbu3.size)
        have hS := HS.out _ hbu4
        refine hKz _ _ (fun _ => hS) ?_
        clear hKz Kz
        refine AnyJ.takeD (i := 6) (d := some 82) (v := ?_) rfl (by kernel_rfl) (by kernel_rfl) (by kernel_rfl) (by kernel_rfl) (by kernel_rfl) (fun _ _ _ h => h) (Or.inl ⟨by kernel_rfl, ?_⟩) hS ?_
        rotate_left
        ·
         intro w' hS
         obtain ⟨⟨sE0, sE1, sE2⟩, ⟨sV0, sV1, sV2, sV3⟩, sK0, sK1, sK2⟩ := hS
         go_simp
         try with_reducible rfl
        refine AnyJ.takeD (i := 7) (d := some 89) (v := ?_) rfl (by kernel_rfl) (by kernel_rfl) (by kernel_rfl) (by kernel_rfl) (by kernel_rfl) (fun _ _ _ h => h) (Or.inl ⟨by kernel_rfl, ?_⟩) hS ?_
        rotate_left
        ·
         intro w' hS
         obtain ⟨⟨sE0, sE1, sE2⟩, ⟨sV0, sV1, sV2, sV3⟩, sK0, sK1, sK2⟩ := hS
         go_simp
         try with_reducible rfl
        refine AnyJ.takeD (i := 8) (d := some 90) (v := ?_) rfl (by kernel_rfl) (by kernel_rfl) (by kernel_rfl) (by kernel_rfl) (by kernel_rfl) (fun _ _ _ h => h) (Or.inl ⟨by kernel_rfl, ?_⟩) hS ?_
        rotate_left
        ·
         intro w' hS
         obtain ⟨⟨sE0, sE1, sE2⟩, ⟨sV0, sV1, sV2, sV3⟩, sK0, sK1, sK2⟩ := hS
         go_simp
         try with_reducible rfl
        clear hS
        replace RA := RA.step hsu4
        have a0 := RA.cell 0 rfl
        have a1 := RA.cell 1 rfl
        have f0 := RA.frozen 0
        have f1 := RA.frozen 1
        have fl := RA.lt
        refine AnyJ.one (i := 10) (by kernel_rfl) rfl (fun Kz hKz => ?_)
        go_simp
        refine hKz _ _ (fun _ => HS.out _ ((hbu4.setCell (hp := hA) (p := ⟨u2.heap.size, 0, none⟩) _).setCell (hp := hA) (p := ⟨u2.heap.size, 1, none⟩) _)) ?_
        clear hKz Kz
        refine AnyJ.one (i := 11) (by kernel_rfl) rfl (fun Kz hKz => ?_)
        go_simp
        refine hKz _ _ (fun h => by cases h) ?_
        clear hKz Kz
        refine AnyJ.done (by kernel_rfl) ?_ _
        try simp only [Act.put, List.setIfInBounds_toArray, List.set_cons_zero, List.set_cons_succ]
        clear a0 a1 f0 f1 fl
        go_wp2_with fail
        go_meet
        exact ⟨_, rfl, rfl, RA.set2 _ _, (hbu4.setCell (hp := hA) (p := ⟨u2.heap.size, 0, none⟩) _).setCell (hp := hA) (p := ⟨u2.heap.size, 1, none⟩) _⟩
      case' rest =>
       obtain ⟨C, rfl, rfl, RC, hb3⟩ := hcut
       obtain ⟨w3, hw3⟩ : ∃ wd, wd = wc := ⟨_, rfl⟩
       subst hw3
       clear HS HYI
       have R_e_3 : Row w3 (w.heap.size) [.int .i64 op, .int .i64 n, .slice (some ⟨b, off, none⟩) m cap] := by (repeat' (first | (with_reducible assumption) | (with_reducible refine Row.new' _ _ _ (by first | rfl | (simp; done) | omega)) | (with_reducible first | refine Row.alloc ?_ _ | refine Row.drew ?_ | refine Row.step ?_ (by assumption) | refine Row.drewN ?_ _) | (with_reducible refine Row.set2' ?_ _ _; first | exact ⟨_, _, by assumption⟩ | exact ⟨_, _, Row.alloc (by assumption) _⟩) | (with_reducible refine Row.other ?_ (by first | omega | (simp; omega)) _)))
       have c_e_0_3 := R_e_3.cell 0 rfl
       have c_e_1_3 := R_e_3.cell 1 rfl
       have c_e_2_3 := R_e_3.cell 2 rfl
       have l_e_3 := R_e_3.lt
       have R_v_3 : Row w3 (w.heap.size + 1) [.int .i64 (v0), .int .i64 (v1), .int .i64 (v2), .int .i64 (v3)] := by (repeat' (first | (with_reducible assumption) | (with_reducible refine Row.new' _ _ _ (by first | rfl | (simp; done) | omega)) | (with_reducible first | refine Row.alloc ?_ _ | refine Row.drew ?_ | refine Row.step ?_ (by assumption) | refine Row.drewN ?_ _) | (with_reducible refine Row.set2' ?_ _ _; first | exact ⟨_, _, by assumption⟩ | exact ⟨_, _, Row.alloc (by assumption) _⟩) | (with_reducible refine Row.other ?_ (by first | omega | (simp; omega)) _)))
       have c_v_0_3 := R_v_3.cell 0 rfl
       have c_v_1_3 := R_v_3.cell 1 rfl
       have c_v_2_3 := R_v_3.cell 2 rfl
       have c_v_3_3 := R_v_3.cell 3 rfl
       have l_v_3 := R_v_3.lt
       have R_o_3 : Row w3 (w.heap.size + 1 + 1) [.int .i64 (0), .int .i64 (0)] := by (repeat' (first | (with_reducible assumption) | (with_reducible refine Row.new' _ _ _ (by first | rfl | (simp; done) | omega)) | (with_reducible first | refine Row.alloc ?_ _ | refine Row.drew ?_ | refine Row.step ?_ (by assumption) | refine Row.drewN ?_ _) | (with_reducible refine Row.set2' ?_ _ _; first | exact ⟨_, _, by assumption⟩ | exact ⟨_, _, Row.alloc (by assumption) _⟩) | (with_reducible refine Row.other ?_ (by first | omega | (simp; omega)) _)))
       have c_o_0_3 := R_o_3.cell 0 rfl
       have c_o_1_3 := R_o_3.cell 1 rfl
       have z_o_0_3 := R_o_3.frozen 0
       have z_o_1_3 := R_o_3.frozen 1
       have l_o_3 := R_o_3.lt
       have HB3 : Below w.heap.size w w3 := by (repeat' (first | (with_reducible first | exact Below.refl _ _ | assumption | exact Bw.out (by assumption) | refine bw_alloc ?_ _ | refine bw_step ?_ (by assumption) | refine Below.alloc ?_ ?_ _ | refine Below.drew ?_ | refine below_drewN ?_ _ | refine Below.setCell ?_ ?_ _ | refine below_step ?_ (by assumption) ?_ | exact Nat.le_refl _) | omega | (simp; omega) | (simp; done)))
       clear R_e_2 c_e_0_2 c_e_1_2 c_e_2_2 R_v_2 c_v_0_2 c_v_1_2 c_v_2_2 c_v_3_2 R_o_2 c_o_0_2 c_o_1_2 z_o_0_2 z_o_1_2 hb2 HB2
       replace RA := RA.step hb3
       have ca0 := RA.cell 0 rfl
       have ca1 := RA.cell 1 rfl
       have cal := RA.lt
       have cc0 := RC.cell 0 rfl
       have cc1 := RC.cell 1 rfl
       have ccl := RC.lt
       by_cases hze : ze = 0
       ·
        have hze' : (ze != 0) = false := by simpa using hze
        have hx := ev_two (v := var4 v0 v1 v2 v3) (x := x) HXO.out (by rw [HE.out.1]; exact ⟨h10, h15⟩) hy.out (by rw [HY.out]; exact HYE.out) hz.out (by rw [HZV.out]; exact hze)
        rw [HR.out, HY.out, HZV.out, HE.out.1] at hx
        have HAP : Hid (ap2 op ya yb za zb = (RN, RD, RE)) := hx.symm
        have hvy : vldP ya yb := by have h := (y.good (var4 v0 v1 v2 v3)).1; rw [HY.out] at h; exact h HYE.out
        have hvz : vldP za zb := by have h := (z.good (var4 v0 v1 v2 v3)).1; rw [HZV.out] at h; exact h hze
        have HVY := Lib.hid hvy
        have HVZ := Lib.hid hvz
        have h14 : op ≤ 14 := by omega
        have h4 : 4 ≤ op := by omega
        have HOP : Hid (op ≠ 10) := h10
        clear hze hx hvy hvz h10 h15
        go_wp2_with fail
        refine (R_apply_p op ya yb za zb RN RD RE h4 h14 HOP.out HVY.out HVZ.out HAP.out _).mono ?_
        rintro e w4 ⟨rfl, hb4⟩
        have R_e_4 : Row w4 (w.heap.size) [.int .i64 op, .int .i64 n, .slice (some ⟨b, off, none⟩) m cap] := by (repeat' (first | (with_reducible assumption) | (with_reducible refine Row.new' _ _ _ (by first | rfl | (simp; done) | omega)) | (with_reducible first | refine Row.alloc ?_ _ | refine Row.drew ?_ | refine Row.step ?_ (by assumption) | refine Row.drewN ?_ _) | (with_reducible refine Row.set2' ?_ _ _; first | exact ⟨_, _, by assumption⟩ | exact ⟨_, _, Row.alloc (by assumption) _⟩) | (with_reducible refine Row.other ?_ (by first | omega | (simp; omega)) _)))
        have c_e_0_4 := R_e_4.cell 0 rfl
        have c_e_1_4 := R_e_4.cell 1 rfl
        have c_e_2_4 := R_e_4.cell 2 rfl
        have l_e_4 := R_e_4.lt
        have R_v_4 : Row w4 (w.heap.size + 1) [.int .i64 (v0), .int .i64 (v1), .int .i64 (v2), .int .i64 (v3)] := by (repeat' (first | (with_reducible assumption) | (with_reducible refine Row.new' _ _ _ (by first | rfl | (simp; done) | omega)) | (with_reducible first | refine Row.alloc ?_ _ | refine Row.drew ?_ | refine Row.step ?_ (by assumption) | refine Row.drewN ?_ _) | (with_reducible refine Row.set2' ?_ _ _; first | exact ⟨_, _, by assumption⟩ | exact ⟨_, _, Row.alloc (by assumption) _⟩) | (with_reducible refine Row.other ?_ (by first | omega | (simp; omega)) _)))
        have c_v_0_4 := R_v_4.cell 0 rfl
        have c_v_1_4 := R_v_4.cell 1 rfl
        have c_v_2_4 := R_v_4.cell 2 rfl
        have c_v_3_4 := R_v_4.cell 3 rfl
        have l_v_4 := R_v_4.lt
        have R_o_4 : Row w4 (w.heap.size + 1 + 1) [.int .i64 (0), .int .i64 (0)] := by (repeat' (first | (with_reducible assumption) | (with_reducible refine Row.new' _ _ _ (by first | rfl | (simp; done) | omega)) | (with_reducible first | refine Row.alloc ?_ _ | refine Row.drew ?_ | refine Row.step ?_ (by assumption) | refine Row.drewN ?_ _) | (with_reducible refine Row.set2' ?_ _ _; first | exact ⟨_, _, by assumption⟩ | exact ⟨_, _, Row.alloc (by assumption) _⟩) | (with_reducible refine Row.other ?_ (by first | omega | (simp; omega)) _)))
        have c_o_0_4 := R_o_4.cell 0 rfl
        have c_o_1_4 := R_o_4.cell 1 rfl
        have z_o_0_4 := R_o_4.frozen 0
        have z_o_1_4 := R_o_4.frozen 1
        have l_o_4 := R_o_4.lt
        have HB4 : Below w.heap.size w w4 := by (repeat' (first | (with_reducible first | exact Below.refl _ _ | assumption | exact Bw.out (by assumption) | refine bw_alloc ?_ _ | refine bw_step ?_ (by assumption) | refine Below.alloc ?_ ?_ _ | refine Below.drew ?_ | refine below_drewN ?_ _ | refine Below.setCell ?_ ?_ _ | refine below_step ?_ (by assumption) ?_ | exact Nat.le_refl _) | omega | (simp; omega) | (simp; done)))
        clear R_e_3 c_e_0_3 c_e_1_3 c_e_2_3 R_v_3 c_v_0_3 c_v_1_3 c_v_2_3 c_v_3_3 R_o_3 c_o_0_3 c_o_1_3 z_o_0_3 z_o_1_3 hb3 HB3
        go_wp2_with fail
        have RP := R_o_4.set2 (.int .i64 (RN)) (.int .i64 (RD))
        have q0 := RP.cell 0 rfl
        have q1 := RP.cell 1 rfl
        refine bodyPost_ret (v := .tuple #[.agg #[.int .i64 (RN), .int .i64 (RD)], .int .i64 (RE)]) (by simp [results, Tryz.results28, go_sem, q0, q1]) rfl ⟨rfl, by (repeat' (first | (with_reducible first | exact Below.refl _ _ | assumption | exact Bw.out (by assumption) | refine bw_alloc ?_ _ | refine bw_step ?_ (by assumption) | refine Below.alloc ?_ ?_ _ | refine Below.drew ?_ | refine below_drewN ?_ _ | refine Below.setCell ?_ ?_ _ | refine below_step ?_ (by assumption) ?_ | exact Nat.le_refl _) | omega | (simp; omega) | (simp; done)))⟩
       ·
        have hze' : (ze != 0) = true := by simpa using hze
        have hx := ev_bad2 (v := var4 v0 v1 v2 v3) (x := x) HXO.out (by rw [HE.out.1]; exact ⟨h10, h15⟩) hy.out (by rw [HY.out]; exact HYE.out) hz.out (by rw [HZV.out]; exact hze)
        rw [HR.out, HZV.out] at hx
        simp only [Prod.mk.injEq] at hx
        obtain ⟨rfl, rfl, rfl⟩ := hx
        clear hze
        go_wp2_with fail
        have RP := R_o_3.set2 (.int .i64 (0)) (.int .i64 (0))
        have q0 := RP.cell 0 rfl
        have q1 := RP.cell 1 rfl
        refine bodyPost_ret (v := .tuple #[.agg #[.int .i64 (0), .int .i64 (0)], .int .i64 (RE)]) (by simp [results, Tryz.results28, go_sem, q0, q1]) rfl ⟨rfl, by (repeat' (first | (with_reducible first | exact Below.refl _ _ | assumption | exact Bw.out (by assumption) | refine bw_alloc ?_ _ | refine bw_step ?_ (by assumption) | refine Below.alloc ?_ ?_ _ | refine Below.drew ?_ | refine below_drewN ?_ _ | refine Below.setCell ?_ ?_ _ | refine below_step ?_ (by assumption) ?_ | exact Nat.le_refl _) | omega | (simp; omega) | (simp; done)))⟩
   ·
    have hye' : (ye != 0) = true := by simpa using hye
    have hx := ev_bad (v := var4 v0 v1 v2 v3) (x := x) HXO.out hy.out (by rw [HYV.out]; exact hye)
    rw [HR.out, HYV.out] at hx
    simp only [Prod.mk.injEq] at hx
    obtain ⟨rfl, rfl, rfl⟩ := hx
    clear hye
    go_wp2_with fail
    have RP := R_o_2.set2 (.int .i64 (0)) (.int .i64 (0))
    have q0 := RP.cell 0 rfl
    have q1 := RP.cell 1 rfl
    refine bodyPost_ret (v := .tuple #[.agg #[.int .i64 (0), .int .i64 (0)], .int .i64 (RE)]) (by simp [results, Tryz.results28, go_sem, q0, q1]) rfl ⟨rfl, by (repeat' (first | (with_reducible first | exact Below.refl _ _ | assumption | exact Bw.out (by assumption) | refine bw_alloc ?_ _ | refine bw_step ?_ (by assumption) | refine Below.alloc ?_ ?_ _ | refine Below.drew ?_ | refine below_drewN ?_ _ | refine Below.setCell ?_ ?_ _ | refine below_step ?_ (by assumption) ?_ | exact Nat.le_refl _) | omega | (simp; omega) | (simp; done)))⟩
end Go.Proofs.YtcmodmchnokmgaaGreat
