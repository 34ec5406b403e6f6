/-
 The walks of package rate: Eval, applies, Applies.
-/
import Derived.Test.YtcmodmchnokmgaaME
import Derived.Test.YtcmodmchnokmgaaLdR
namespace Go.Proofs.Ytcmodmchnokmgaa
set_option linter.unusedSimpArgs false
set_option linter.unusedVariables false
open Go.RowKit
attribute [local go_sem ↓] ld_eq st_eq
attribute [local go_sem] ldR_run ldV_drew ldV_alloc ldV_at16 stR_run sz16_rate stB_drew stB_at16 stW_at16 stB_set ldV_set
theorem value_p (x : Ex) (v0 v1 v2 v3 : Int) (w : World) (h : x.In w) (hok : x.ok = true) (N D E : Int) (hR : x.ev (var4 v0 v1 v2 v3) = (N, D, E)) :
  Calls Try.prog 79 #[.agg #[.int .i64 x.op, .int .i64 x.n, .slice x.at' x.ks.length x.cap], .agg #[.int .i64 v0, .int .i64 v1, .int .i64 v2, .int .i64 v3]] w fun e w' => e = .returned (.tuple #[.agg #[.int .i64 N, .int .i64 D], .int .i64 E]) ∧ Below w.heap.size w w' :=
 value_any x v0 v1 v2 v3 w h hok N D E hR
set_option maxRecDepth 100000 in
set_option maxHeartbeats 4000000 in
theorem eval_any (x : Ex) (v0 v1 v2 v3 : Int) (w : World) (h : x.In w) :
  Calls Try.prog 49 #[.agg #[.int .i64 x.op, .int .i64 x.n, .slice x.at' x.ks.length x.cap], .agg #[.int .i64 v0, .int .i64 v1, .int .i64 v2, .int .i64 v3]] w fun e w' => e = .returned (.tuple #[.agg #[.int .i64 (evalV x v0 v1 v2 v3).1, .int .i64 (evalV x v0 v1 v2 v3).2.1], .int .i64 (evalV x v0 v1 v2 v3).2.2]) ∧ Below w.heap.size w w' := by
 have HIN := Lib.hid h
 clear h
 obtain ⟨p0, hp0⟩ : ∃ p, inE v0 1 60 = p := ⟨_, rfl⟩
 obtain ⟨p1, hp1⟩ : ∃ p, inE v1 1 8 = p := ⟨_, rfl⟩
 obtain ⟨p2, hp2⟩ : ∃ p, inE v2 0 59 = p := ⟨_, rfl⟩
 obtain ⟨p3, hp3⟩ : ∃ p, inE v3 0 6 = p := ⟨_, rfl⟩
 have hvb : varsB v0 v1 v2 v3 = (p0 && (p1 && (p2 && p3))) := by unfold varsB; rw [hp0, hp1, hp2, hp3]
 have H0 := Lib.hid hp0
 have H1 := Lib.hid hp1
 have H2 := Lib.hid hp2
 have H3 := Lib.hid hp3
 obtain ⟨V, hV⟩ : ∃ V, inferV x = V := ⟨_, rfl⟩
 obtain ⟨E, hE⟩ : ∃ E, inferE x = E := ⟨_, rfl⟩
 have HV := Lib.hid hV
 have HE := Lib.hid hE
 obtain ⟨N, D, F, hR⟩ : ∃ N D F, evalV x v0 v1 v2 v3 = (N, D, F) := ⟨_, _, _, rfl⟩
 have HR := Lib.hid hR
 rw [hR]
 have HVB := Lib.hid hvb
 clear hp0 hp1 hp2 hp3 hV hE hR hvb
 have hbad : E ≠ 0 → N = 0 ∧ D = 0 ∧ F = 1 := fun h => by
  have h1 := HR.out
  unfold evalV at h1
  rw [if_neg] at h1
  ·
   simp only [Prod.mk.injEq] at h1; exact ⟨h1.1.symm, h1.2.1.symm, h1.2.2.symm⟩
  ·
   intro hc
   simp only [Bool.and_eq_true, decide_eq_true_eq] at hc
   refine h ?_
   rw [← HE.out]
   unfold inferE
   rw [if_pos hc.1.1, if_neg hc.1.2]
 have hbad2 : varsB v0 v1 v2 v3 = false → N = 0 ∧ D = 0 ∧ F = 1 := fun h => by
  have h1 := HR.out
  unfold evalV at h1
  rw [h, if_neg (by simp)] at h1
  simp only [Prod.mk.injEq] at h1; exact ⟨h1.1.symm, h1.2.1.symm, h1.2.2.symm⟩
 have hgood : E = 0 → varsB v0 v1 v2 v3 = true → x.ok = true ∧ x.ev (var4 v0 v1 v2 v3) = (N, D, F) := fun h hv => by
  have h2 : inferE x = 0 := HE.out.trans h
  unfold inferE at h2
  split at h2
  ·
   rename_i hval
   split at h2
   ·
    simp at h2
   ·
    rename_i hty
    have h1 := HR.out
    unfold evalV at h1
    rw [if_pos (by simp [hval, hty, hv])] at h1
    exact ⟨validE_ok hval, h1⟩
  ·
   simp at h2
 have HBA := Lib.hid hbad
 have HBB := Lib.hid hbad2
 have HG := Lib.hid hgood
 clear hbad hbad2 hgood
 go_enter Try.func49, Try.ntmps49
 go_wp2_with fail
 refine (rwithin_p v0 1 60 p0 H0.out _).mono ?_
 rintro e w1 ⟨rfl, hb1⟩
 have R_e_1 : Row w1 (w.heap.size) [.int .i64 x.op, .int .i64 x.n, .slice x.at' x.ks.length x.cap] := by (repeat' (first | (with_reducible assumption) | (with_reducible refine Row.new' _ _ _ (by first | rfl | (simp; done) | omega)) | (with_reducible first | refine Row.alloc ?_ _ | refine Row.drew ?_ | refine Row.step ?_ (by assumption) | refine Row.drewN ?_ _) | (with_reducible refine Row.set2' ?_ _ _; first | exact ⟨_, _, by assumption⟩ | exact ⟨_, _, Row.alloc (by assumption) _⟩) | (with_reducible refine Row.other ?_ (by first | omega | (simp; omega)) _)))
 have c_e_0_1 := R_e_1.cell 0 rfl
 have c_e_1_1 := R_e_1.cell 1 rfl
 have c_e_2_1 := R_e_1.cell 2 rfl
 have l_e_1 := R_e_1.lt
 have R_v_1 : Row w1 (w.heap.size + 1) [.int .i64 (v0), .int .i64 (v1), .int .i64 (v2), .int .i64 (v3)] := by (repeat' (first | (with_reducible assumption) | (with_reducible refine Row.new' _ _ _ (by first | rfl | (simp; done) | omega)) | (with_reducible first | refine Row.alloc ?_ _ | refine Row.drew ?_ | refine Row.step ?_ (by assumption) | refine Row.drewN ?_ _) | (with_reducible refine Row.set2' ?_ _ _; first | exact ⟨_, _, by assumption⟩ | exact ⟨_, _, Row.alloc (by assumption) _⟩) | (with_reducible refine Row.other ?_ (by first | omega | (simp; omega)) _)))
 have c_v_0_1 := R_v_1.cell 0 rfl
 have c_v_1_1 := R_v_1.cell 1 rfl
 have c_v_2_1 := R_v_1.cell 2 rfl
 have c_v_3_1 := R_v_1.cell 3 rfl
 have l_v_1 := R_v_1.lt
 have R_o_1 : Row w1 (w.heap.size + 1 + 1) [.int .i64 (0), .int .i64 (0)] := by (repeat' (first | (with_reducible assumption) | (with_reducible refine Row.new' _ _ _ (by first | rfl | (simp; done) | omega)) | (with_reducible first | refine Row.alloc ?_ _ | refine Row.drew ?_ | refine Row.step ?_ (by assumption) | refine Row.drewN ?_ _) | (with_reducible refine Row.set2' ?_ _ _; first | exact ⟨_, _, by assumption⟩ | exact ⟨_, _, Row.alloc (by assumption) _⟩) | (with_reducible refine Row.other ?_ (by first | omega | (simp; omega)) _)))
 have c_o_0_1 := R_o_1.cell 0 rfl
 have c_o_1_1 := R_o_1.cell 1 rfl
 have z_o_0_1 := R_o_1.frozen 0
 have z_o_1_1 := R_o_1.frozen 1
 have l_o_1 := R_o_1.lt
 have HB1 : Below w.heap.size w w1 := by (repeat' (first | (with_reducible first | exact Below.refl _ _ | assumption | exact Bw.out (by assumption) | refine bw_alloc ?_ _ | refine bw_step ?_ (by assumption) | refine Below.alloc ?_ ?_ _ | refine Below.drew ?_ | refine below_drewN ?_ _ | refine Below.setCell ?_ ?_ _ | refine below_step ?_ (by assumption) ?_ | exact Nat.le_refl _) | omega | (simp; omega) | (simp; done)))
 cases p0 with
 | false =>
  obtain ⟨rfl, rfl, rfl⟩ := HBB.out HVB.out
  go_wp2_with fail
  refine (infer_p x _ (HIN.out.step HB1) V E HV.out HE.out).mono ?_
  rintro e w2 ⟨rfl, hb2⟩
  have R_e_2 : Row w2 (w.heap.size) [.int .i64 x.op, .int .i64 x.n, .slice x.at' x.ks.length x.cap] := by (repeat' (first | (with_reducible assumption) | (with_reducible refine Row.new' _ _ _ (by first | rfl | (simp; done) | omega)) | (with_reducible first | refine Row.alloc ?_ _ | refine Row.drew ?_ | refine Row.step ?_ (by assumption) | refine Row.drewN ?_ _) | (with_reducible refine Row.set2' ?_ _ _; first | exact ⟨_, _, by assumption⟩ | exact ⟨_, _, Row.alloc (by assumption) _⟩) | (with_reducible refine Row.other ?_ (by first | omega | (simp; omega)) _)))
  have c_e_0_2 := R_e_2.cell 0 rfl
  have c_e_1_2 := R_e_2.cell 1 rfl
  have c_e_2_2 := R_e_2.cell 2 rfl
  have l_e_2 := R_e_2.lt
  have R_v_2 : Row w2 (w.heap.size + 1) [.int .i64 (v0), .int .i64 (v1), .int .i64 (v2), .int .i64 (v3)] := by (repeat' (first | (with_reducible assumption) | (with_reducible refine Row.new' _ _ _ (by first | rfl | (simp; done) | omega)) | (with_reducible first | refine Row.alloc ?_ _ | refine Row.drew ?_ | refine Row.step ?_ (by assumption) | refine Row.drewN ?_ _) | (with_reducible refine Row.set2' ?_ _ _; first | exact ⟨_, _, by assumption⟩ | exact ⟨_, _, Row.alloc (by assumption) _⟩) | (with_reducible refine Row.other ?_ (by first | omega | (simp; omega)) _)))
  have c_v_0_2 := R_v_2.cell 0 rfl
  have c_v_1_2 := R_v_2.cell 1 rfl
  have c_v_2_2 := R_v_2.cell 2 rfl
  have c_v_3_2 := R_v_2.cell 3 rfl
  have l_v_2 := R_v_2.lt
  have R_o_2 : Row w2 (w.heap.size + 1 + 1) [.int .i64 (0), .int .i64 (0)] := by (repeat' (first | (with_reducible assumption) | (with_reducible refine Row.new' _ _ _ (by first | rfl | (simp; done) | omega)) | (with_reducible first | refine Row.alloc ?_ _ | refine Row.drew ?_ | refine Row.step ?_ (by assumption) | refine Row.drewN ?_ _) | (with_reducible refine Row.set2' ?_ _ _; first | exact ⟨_, _, by assumption⟩ | exact ⟨_, _, Row.alloc (by assumption) _⟩) | (with_reducible refine Row.other ?_ (by first | omega | (simp; omega)) _)))
  have c_o_0_2 := R_o_2.cell 0 rfl
  have c_o_1_2 := R_o_2.cell 1 rfl
  have z_o_0_2 := R_o_2.frozen 0
  have z_o_1_2 := R_o_2.frozen 1
  have l_o_2 := R_o_2.lt
  have HB2 : Below w.heap.size w w2 := by (repeat' (first | (with_reducible first | exact Below.refl _ _ | assumption | exact Bw.out (by assumption) | refine bw_alloc ?_ _ | refine bw_step ?_ (by assumption) | refine Below.alloc ?_ ?_ _ | refine Below.drew ?_ | refine below_drewN ?_ _ | refine Below.setCell ?_ ?_ _ | refine below_step ?_ (by assumption) ?_ | exact Nat.le_refl _) | omega | (simp; omega) | (simp; done)))
  clear R_e_1 c_e_0_1 c_e_1_1 c_e_2_1 R_v_1 c_v_0_1 c_v_1_1 c_v_2_1 c_v_3_1 R_o_1 c_o_0_1 c_o_1_1 z_o_0_1 z_o_1_1 hb1 HB1
  by_cases hE : E = 0
  ·
   have hE' : (E != 0) = false := by simpa using hE
   clear hE
   go_wp2_with fail
   have RP := R_o_2.set2 (.int .i64 0) (.int .i64 0)
   have q0 := RP.cell 0 rfl
   have q1 := RP.cell 1 rfl
   refine bodyPost_ret (v := .tuple #[.agg #[.int .i64 0, .int .i64 0], .int .i64 1]) (by simp [results, Try.results49, go_sem, q0, q1]) rfl ⟨rfl, by (repeat' (first | (with_reducible first | exact Below.refl _ _ | assumption | exact Bw.out (by assumption) | refine bw_alloc ?_ _ | refine bw_step ?_ (by assumption) | refine Below.alloc ?_ ?_ _ | refine Below.drew ?_ | refine below_drewN ?_ _ | refine Below.setCell ?_ ?_ _ | refine below_step ?_ (by assumption) ?_ | exact Nat.le_refl _) | omega | (simp; omega) | (simp; done)))⟩
  ·
   have hE' : (E != 0) = true := by simpa using hE
   clear hE
   go_wp2_with fail
   have RP := R_o_2.set2 (.int .i64 0) (.int .i64 0)
   have q0 := RP.cell 0 rfl
   have q1 := RP.cell 1 rfl
   refine bodyPost_ret (v := .tuple #[.agg #[.int .i64 0, .int .i64 0], .int .i64 1]) (by simp [results, Try.results49, go_sem, q0, q1]) rfl ⟨rfl, by (repeat' (first | (with_reducible first | exact Below.refl _ _ | assumption | exact Bw.out (by assumption) | refine bw_alloc ?_ _ | refine bw_step ?_ (by assumption) | refine Below.alloc ?_ ?_ _ | refine Below.drew ?_ | refine below_drewN ?_ _ | refine Below.setCell ?_ ?_ _ | refine below_step ?_ (by assumption) ?_ | exact Nat.le_refl _) | omega | (simp; omega) | (simp; done)))⟩
 | true =>
  go_wp2_with fail
  refine (rwithin_p v1 1 8 p1 H1.out _).mono ?_
  rintro e w2 ⟨rfl, hb2⟩
  have R_e_2 : Row w2 (w.heap.size) [.int .i64 x.op, .int .i64 x.n, .slice x.at' x.ks.length x.cap] := by (repeat' (first | (with_reducible assumption) | (with_reducible refine Row.new' _ _ _ (by first | rfl | (simp; done) | omega)) | (with_reducible first | refine Row.alloc ?_ _ | refine Row.drew ?_ | refine Row.step ?_ (by assumption) | refine Row.drewN ?_ _) | (with_reducible refine Row.set2' ?_ _ _; first | exact ⟨_, _, by assumption⟩ | exact ⟨_, _, Row.alloc (by assumption) _⟩) | (with_reducible refine Row.other ?_ (by first | omega | (simp; omega)) _)))
  have c_e_0_2 := R_e_2.cell 0 rfl
  have c_e_1_2 := R_e_2.cell 1 rfl
  have c_e_2_2 := R_e_2.cell 2 rfl
  have l_e_2 := R_e_2.lt
  have R_v_2 : Row w2 (w.heap.size + 1) [.int .i64 (v0), .int .i64 (v1), .int .i64 (v2), .int .i64 (v3)] := by (repeat' (first | (with_reducible assumption) | (with_reducible refine Row.new' _ _ _ (by first | rfl | (simp; done) | omega)) | (with_reducible first | refine Row.alloc ?_ _ | refine Row.drew ?_ | refine Row.step ?_ (by assumption) | refine Row.drewN ?_ _) | (with_reducible refine Row.set2' ?_ _ _; first | exact ⟨_, _, by assumption⟩ | exact ⟨_, _, Row.alloc (by assumption) _⟩) | (with_reducible refine Row.other ?_ (by first | omega | (simp; omega)) _)))
  have c_v_0_2 := R_v_2.cell 0 rfl
  have c_v_1_2 := R_v_2.cell 1 rfl
  have c_v_2_2 := R_v_2.cell 2 rfl
  have c_v_3_2 := R_v_2.cell 3 rfl
  have l_v_2 := R_v_2.lt
  have R_o_2 : Row w2 (w.heap.size + 1 + 1) [.int .i64 (0), .int .i64 (0)] := by (repeat' (first | (with_reducible assumption) | (with_reducible refine Row.new' _ _ _ (by first | rfl | (simp; done) | omega)) | (with_reducible first | refine Row.alloc ?_ _ | refine Row.drew ?_ | refine Row.step ?_ (by assumption) | refine Row.drewN ?_ _) | (with_reducible refine Row.set2' ?_ _ _; first | exact ⟨_, _, by assumption⟩ | exact ⟨_, _, Row.alloc (by assumption) _⟩) | (with_reducible refine Row.other ?_ (by first | omega | (simp; omega)) _)))
  have c_o_0_2 := R_o_2.cell 0 rfl
  have c_o_1_2 := R_o_2.cell 1 rfl
  have z_o_0_2 := R_o_2.frozen 0
  have z_o_1_2 := R_o_2.frozen 1
  have l_o_2 := R_o_2.lt
  have HB2 : Below w.heap.size w w2 := by (repeat' (first | (with_reducible first | exact Below.refl _ _ | assumption | exact Bw.out (by assumption) | refine bw_alloc ?_ _ | refine bw_step ?_ (by assumption) | refine Below.alloc ?_ ?_ _ | refine Below.drew ?_ | refine below_drewN ?_ _ | refine Below.setCell ?_ ?_ _ | refine below_step ?_ (by assumption) ?_ | exact Nat.le_refl _) | omega | (simp; omega) | (simp; done)))
  clear R_e_1 c_e_0_1 c_e_1_1 c_e_2_1 R_v_1 c_v_0_1 c_v_1_1 c_v_2_1 c_v_3_1 R_o_1 c_o_0_1 c_o_1_1 z_o_0_1 z_o_1_1 hb1 HB1
  cases p1 with
  | false =>
   obtain ⟨rfl, rfl, rfl⟩ := HBB.out HVB.out
   go_wp2_with fail
   refine (infer_p x _ (HIN.out.step HB2) V E HV.out HE.out).mono ?_
   rintro e w3 ⟨rfl, hb3⟩
   have R_e_3 : Row w3 (w.heap.size) [.int .i64 x.op, .int .i64 x.n, .slice x.at' x.ks.length x.cap] := by (repeat' (first | (with_reducible assumption) | (with_reducible refine Row.new' _ _ _ (by first | rfl | (simp; done) | omega)) | (with_reducible first | refine Row.alloc ?_ _ | refine Row.drew ?_ | refine Row.step ?_ (by assumption) | refine Row.drewN ?_ _) | (with_reducible refine Row.set2' ?_ _ _; first | exact ⟨_, _, by assumption⟩ | exact ⟨_, _, Row.alloc (by assumption) _⟩) | (with_reducible refine Row.other ?_ (by first | omega | (simp; omega)) _)))
   have c_e_0_3 := R_e_3.cell 0 rfl
   have c_e_1_3 := R_e_3.cell 1 rfl
   have c_e_2_3 := R_e_3.cell 2 rfl
   have l_e_3 := R_e_3.lt
   have R_v_3 : Row w3 (w.heap.size + 1) [.int .i64 (v0), .int .i64 (v1), .int .i64 (v2), .int .i64 (v3)] := by (repeat' (first | (with_reducible assumption) | (with_reducible refine Row.new' _ _ _ (by first | rfl | (simp; done) | omega)) | (with_reducible first | refine Row.alloc ?_ _ | refine Row.drew ?_ | refine Row.step ?_ (by assumption) | refine Row.drewN ?_ _) | (with_reducible refine Row.set2' ?_ _ _; first | exact ⟨_, _, by assumption⟩ | exact ⟨_, _, Row.alloc (by assumption) _⟩) | (with_reducible refine Row.other ?_ (by first | omega | (simp; omega)) _)))
   have c_v_0_3 := R_v_3.cell 0 rfl
   have c_v_1_3 := R_v_3.cell 1 rfl
   have c_v_2_3 := R_v_3.cell 2 rfl
   have c_v_3_3 := R_v_3.cell 3 rfl
   have l_v_3 := R_v_3.lt
   have R_o_3 : Row w3 (w.heap.size + 1 + 1) [.int .i64 (0), .int .i64 (0)] := by (repeat' (first | (with_reducible assumption) | (with_reducible refine Row.new' _ _ _ (by first | rfl | (simp; done) | omega)) | (with_reducible first | refine Row.alloc ?_ _ | refine Row.drew ?_ | refine Row.step ?_ (by assumption) | refine Row.drewN ?_ _) | (with_reducible refine Row.set2' ?_ _ _; first | exact ⟨_, _, by assumption⟩ | exact ⟨_, _, Row.alloc (by assumption) _⟩) | (with_reducible refine Row.other ?_ (by first | omega | (simp; omega)) _)))
   have c_o_0_3 := R_o_3.cell 0 rfl
   have c_o_1_3 := R_o_3.cell 1 rfl
   have z_o_0_3 := R_o_3.frozen 0
   have z_o_1_3 := R_o_3.frozen 1
   have l_o_3 := R_o_3.lt
   have HB3 : Below w.heap.size w w3 := by (repeat' (first | (with_reducible first | exact Below.refl _ _ | assumption | exact Bw.out (by assumption) | refine bw_alloc ?_ _ | refine bw_step ?_ (by assumption) | refine Below.alloc ?_ ?_ _ | refine Below.drew ?_ | refine below_drewN ?_ _ | refine Below.setCell ?_ ?_ _ | refine below_step ?_ (by assumption) ?_ | exact Nat.le_refl _) | omega | (simp; omega) | (simp; done)))
   clear R_e_2 c_e_0_2 c_e_1_2 c_e_2_2 R_v_2 c_v_0_2 c_v_1_2 c_v_2_2 c_v_3_2 R_o_2 c_o_0_2 c_o_1_2 z_o_0_2 z_o_1_2 hb2 HB2
   by_cases hE : E = 0
   ·
    have hE' : (E != 0) = false := by simpa using hE
    clear hE
    go_wp2_with fail
    have RP := R_o_3.set2 (.int .i64 0) (.int .i64 0)
    have q0 := RP.cell 0 rfl
    have q1 := RP.cell 1 rfl
    refine bodyPost_ret (v := .tuple #[.agg #[.int .i64 0, .int .i64 0], .int .i64 1]) (by simp [results, Try.results49, go_sem, q0, q1]) rfl ⟨rfl, by (repeat' (first | (with_reducible first | exact Below.refl _ _ | assumption | exact Bw.out (by assumption) | refine bw_alloc ?_ _ | refine bw_step ?_ (by assumption) | refine Below.alloc ?_ ?_ _ | refine Below.drew ?_ | refine below_drewN ?_ _ | refine Below.setCell ?_ ?_ _ | refine below_step ?_ (by assumption) ?_ | exact Nat.le_refl _) | omega | (simp; omega) | (simp; done)))⟩
   ·
    have hE' : (E != 0) = true := by simpa using hE
    clear hE
    go_wp2_with fail
    have RP := R_o_3.set2 (.int .i64 0) (.int .i64 0)
    have q0 := RP.cell 0 rfl
    have q1 := RP.cell 1 rfl
    refine bodyPost_ret (v := .tuple #[.agg #[.int .i64 0, .int .i64 0], .int .i64 1]) (by simp [results, Try.results49, go_sem, q0, q1]) rfl ⟨rfl, by (repeat' (first | (with_reducible first | exact Below.refl _ _ | assumption | exact Bw.out (by assumption) | refine bw_alloc ?_ _ | refine bw_step ?_ (by assumption) | refine Below.alloc ?_ ?_ _ | refine Below.drew ?_ | refine below_drewN ?_ _ | refine Below.setCell ?_ ?_ _ | refine below_step ?_ (by assumption) ?_ | exact Nat.le_refl _) | omega | (simp; omega) | (simp; done)))⟩
  | true =>
   go_wp2_with fail
   refine (rwithin_p v2 0 59 p2 H2.out _).mono ?_
   rintro e w3 ⟨rfl, hb3⟩
   have R_e_3 : Row w3 (w.heap.size) [.int .i64 x.op, .int .i64 x.n, .slice x.at' x.ks.length x.cap] := by (repeat' (first | (with_reducible assumption) | (with_reducible refine Row.new' _ _ _ (by first | rfl | (simp; done) | omega)) | (with_reducible first | refine Row.alloc ?_ _ | refine Row.drew ?_ | refine Row.step ?_ (by assumption) | refine Row.drewN ?_ _) | (with_reducible refine Row.set2' ?_ _ _; first | exact ⟨_, _, by assumption⟩ | exact ⟨_, _, Row.alloc (by assumption) _⟩) | (with_reducible refine Row.other ?_ (by first | omega | (simp; omega)) _)))
   have c_e_0_3 := R_e_3.cell 0 rfl
   have c_e_1_3 := R_e_3.cell 1 rfl
   have c_e_2_3 := R_e_3.cell 2 rfl
   have l_e_3 := R_e_3.lt
   have R_v_3 : Row w3 (w.heap.size + 1) [.int .i64 (v0), .int .i64 (v1), .int .i64 (v2), .int .i64 (v3)] := by (repeat' (first | (with_reducible assumption) | (with_reducible refine Row.new' _ _ _ (by first | rfl | (simp; done) | omega)) | (with_reducible first | refine Row.alloc ?_ _ | refine Row.drew ?_ | refine Row.step ?_ (by assumption) | refine Row.drewN ?_ _) | (with_reducible refine Row.set2' ?_ _ _; first | exact ⟨_, _, by assumption⟩ | exact ⟨_, _, Row.alloc (by assumption) _⟩) | (with_reducible refine Row.other ?_ (by first | omega | (simp; omega)) _)))
   have c_v_0_3 := R_v_3.cell 0 rfl
   have c_v_1_3 := R_v_3.cell 1 rfl
   have c_v_2_3 := R_v_3.cell 2 rfl
   have c_v_3_3 := R_v_3.cell 3 rfl
   have l_v_3 := R_v_3.lt
   have R_o_3 : Row w3 (w.heap.size + 1 + 1) [.int .i64 (0), .int .i64 (0)] := by (repeat' (first | (with_reducible assumption) | (with_reducible refine Row.new' _ _ _ (by first | rfl | (simp; done) | omega)) | (with_reducible first | refine Row.alloc ?_ _ | refine Row.drew ?_ | refine Row.step ?_ (by assumption) | refine Row.drewN ?_ _) | (with_reducible refine Row.set2' ?_ _ _; first | exact ⟨_, _, by assumption⟩ | exact ⟨_, _, Row.alloc (by assumption) _⟩) | (with_reducible refine Row.other ?_ (by first | omega | (simp; omega)) _)))
   have c_o_0_3 := R_o_3.cell 0 rfl
   have c_o_1_3 := R_o_3.cell 1 rfl
   have z_o_0_3 := R_o_3.frozen 0
   have z_o_1_3 := R_o_3.frozen 1
   have l_o_3 := R_o_3.lt
   have HB3 : Below w.heap.size w w3 := by (repeat' (first | (with_reducible first | exact Below.refl _ _ | assumption | exact Bw.out (by assumption) | refine bw_alloc ?_ _ | refine bw_step ?_ (by assumption) | refine Below.alloc ?_ ?_ _ | refine Below.drew ?_ | refine below_drewN ?_ _ | refine Below.setCell ?_ ?_ _ | refine below_step ?_ (by assumption) ?_ | exact Nat.le_refl _) | omega | (simp; omega) | (simp; done)))
   clear R_e_2 c_e_0_2 c_e_1_2 c_e_2_2 R_v_2 c_v_0_2 c_v_1_2 c_v_2_2 c_v_3_2 R_o_2 c_o_0_2 c_o_1_2 z_o_0_2 z_o_1_2 hb2 HB2
   cases p2 with
   | false =>
    obtain ⟨rfl, rfl, rfl⟩ := HBB.out HVB.out
    go_wp2_with fail
    refine (infer_p x _ (HIN.out.step HB3) V E HV.out HE.out).mono ?_
    rintro e w4 ⟨rfl, hb4⟩
    have R_e_4 : Row w4 (w.heap.size) [.int .i64 x.op, .int .i64 x.n, .slice x.at' x.ks.length x.cap] := by (repeat' (first | (with_reducible assumption) | (with_reducible refine Row.new' _ _ _ (by first | rfl | (simp; done) | omega)) | (with_reducible first | refine Row.alloc ?_ _ | refine Row.drew ?_ | refine Row.step ?_ (by assumption) | refine Row.drewN ?_ _) | (with_reducible refine Row.set2' ?_ _ _; first | exact ⟨_, _, by assumption⟩ | exact ⟨_, _, Row.alloc (by assumption) _⟩) | (with_reducible refine Row.other ?_ (by first | omega | (simp; omega)) _)))
    have c_e_0_4 := R_e_4.cell 0 rfl
    have c_e_1_4 := R_e_4.cell 1 rfl
    have c_e_2_4 := R_e_4.cell 2 rfl
    have l_e_4 := R_e_4.lt
    have R_v_4 : Row w4 (w.heap.size + 1) [.int .i64 (v0), .int .i64 (v1), .int .i64 (v2), .int .i64 (v3)] := by (repeat' (first | (with_reducible assumption) | (with_reducible refine Row.new' _ _ _ (by first | rfl | (simp; done) | omega)) | (with_reducible first | refine Row.alloc ?_ _ | refine Row.drew ?_ | refine Row.step ?_ (by assumption) | refine Row.drewN ?_ _) | (with_reducible refine Row.set2' ?_ _ _; first | exact ⟨_, _, by assumption⟩ | exact ⟨_, _, Row.alloc (by assumption) _⟩) | (with_reducible refine Row.other ?_ (by first | omega | (simp; omega)) _)))
    have c_v_0_4 := R_v_4.cell 0 rfl
    have c_v_1_4 := R_v_4.cell 1 rfl
    have c_v_2_4 := R_v_4.cell 2 rfl
    have c_v_3_4 := R_v_4.cell 3 rfl
    have l_v_4 := R_v_4.lt
    have R_o_4 : Row w4 (w.heap.size + 1 + 1) [.int .i64 (0), .int .i64 (0)] := by (repeat' (first | (with_reducible assumption) | (with_reducible refine Row.new' _ _ _ (by first | rfl | (simp; done) | omega)) | (with_reducible first | refine Row.alloc ?_ _ | refine Row.drew ?_ | refine Row.step ?_ (by assumption) | refine Row.drewN ?_ _) | (with_reducible refine Row.set2' ?_ _ _; first | exact ⟨_, _, by assumption⟩ | exact ⟨_, _, Row.alloc (by assumption) _⟩) | (with_reducible refine Row.other ?_ (by first | omega | (simp; omega)) _)))
    have c_o_0_4 := R_o_4.cell 0 rfl
    have c_o_1_4 := R_o_4.cell 1 rfl
    have z_o_0_4 := R_o_4.frozen 0
    have z_o_1_4 := R_o_4.frozen 1
    have l_o_4 := R_o_4.lt
    have HB4 : Below w.heap.size w w4 := by (repeat' (first | (with_reducible first | exact Below.refl _ _ | assumption | exact Bw.out (by assumption) | refine bw_alloc ?_ _ | refine bw_step ?_ (by assumption) | refine Below.alloc ?_ ?_ _ | refine Below.drew ?_ | refine below_drewN ?_ _ | refine Below.setCell ?_ ?_ _ | refine below_step ?_ (by assumption) ?_ | exact Nat.le_refl _) | omega | (simp; omega) | (simp; done)))
    clear R_e_3 c_e_0_3 c_e_1_3 c_e_2_3 R_v_3 c_v_0_3 c_v_1_3 c_v_2_3 c_v_3_3 R_o_3 c_o_0_3 c_o_1_3 z_o_0_3 z_o_1_3 hb3 HB3
    by_cases hE : E = 0
    ·
     have hE' : (E != 0) = false := by simpa using hE
     clear hE
     go_wp2_with fail
     have RP := R_o_4.set2 (.int .i64 0) (.int .i64 0)
     have q0 := RP.cell 0 rfl
     have q1 := RP.cell 1 rfl
     refine bodyPost_ret (v := .tuple #[.agg #[.int .i64 0, .int .i64 0], .int .i64 1]) (by simp [results, Try.results49, go_sem, q0, q1]) rfl ⟨rfl, by (repeat' (first | (with_reducible first | exact Below.refl _ _ | assumption | exact Bw.out (by assumption) | refine bw_alloc ?_ _ | refine bw_step ?_ (by assumption) | refine Below.alloc ?_ ?_ _ | refine Below.drew ?_ | refine below_drewN ?_ _ | refine Below.setCell ?_ ?_ _ | refine below_step ?_ (by assumption) ?_ | exact Nat.le_refl _) | omega | (simp; omega) | (simp; done)))⟩
    ·
     have hE' : (E != 0) = true := by simpa using hE
     clear hE
     go_wp2_with fail
     have RP := R_o_4.set2 (.int .i64 0) (.int .i64 0)
     have q0 := RP.cell 0 rfl
     have q1 := RP.cell 1 rfl
     refine bodyPost_ret (v := .tuple #[.agg #[.int .i64 0, .int .i64 0], .int .i64 1]) (by simp [results, Try.results49, go_sem, q0, q1]) rfl ⟨rfl, by (repeat' (first | (with_reducible first | exact Below.refl _ _ | assumption | exact Bw.out (by assumption) | refine bw_alloc ?_ _ | refine bw_step ?_ (by assumption) | refine Below.alloc ?_ ?_ _ | refine Below.drew ?_ | refine below_drewN ?_ _ | refine Below.setCell ?_ ?_ _ | refine below_step ?_ (by assumption) ?_ | exact Nat.le_refl _) | omega | (simp; omega) | (simp; done)))⟩
   | true =>
    go_wp2_with fail
    refine (rwithin_p v3 0 6 p3 H3.out _).mono ?_
    rintro e w4 ⟨rfl, hb4⟩
    have R_e_4 : Row w4 (w.heap.size) [.int .i64 x.op, .int .i64 x.n, .slice x.at' x.ks.length x.cap] := by (repeat' (first | (with_reducible assumption) | (with_reducible refine Row.new' _ _ _ (by first | rfl | (simp; done) | omega)) | (with_reducible first | refine Row.alloc ?_ _ | refine Row.drew ?_ | refine Row.step ?_ (by assumption) | refine Row.drewN ?_ _) | (with_reducible refine Row.set2' ?_ _ _; first | exact ⟨_, _, by assumption⟩ | exact ⟨_, _, Row.alloc (by assumption) _⟩) | (with_reducible refine Row.other ?_ (by first | omega | (simp; omega)) _)))
    have c_e_0_4 := R_e_4.cell 0 rfl
    have c_e_1_4 := R_e_4.cell 1 rfl
    have c_e_2_4 := R_e_4.cell 2 rfl
    have l_e_4 := R_e_4.lt
    have R_v_4 : Row w4 (w.heap.size + 1) [.int .i64 (v0), .int .i64 (v1), .int .i64 (v2), .int .i64 (v3)] := by (repeat' (first | (with_reducible assumption) | (with_reducible refine Row.new' _ _ _ (by first | rfl | (simp; done) | omega)) | (with_reducible first | refine Row.alloc ?_ _ | refine Row.drew ?_ | refine Row.step ?_ (by assumption) | refine Row.drewN ?_ _) | (with_reducible refine Row.set2' ?_ _ _; first | exact ⟨_, _, by assumption⟩ | exact ⟨_, _, Row.alloc (by assumption) _⟩) | (with_reducible refine Row.other ?_ (by first | omega | (simp; omega)) _)))
    have c_v_0_4 := R_v_4.cell 0 rfl
    have c_v_1_4 := R_v_4.cell 1 rfl
    have c_v_2_4 := R_v_4.cell 2 rfl
    have c_v_3_4 := R_v_4.cell 3 rfl
    have l_v_4 := R_v_4.lt
    have R_o_4 : Row w4 (w.heap.size + 1 + 1) [.int .i64 (0), .int .i64 (0)] := by (repeat' (first | (with_reducible assumption) | (with_reducible refine Row.new' _ _ _ (by first | rfl | (simp; done) | omega)) | (with_reducible first | refine Row.alloc ?_ _ | refine Row.drew ?_ | refine Row.step ?_ (by assumption) | refine Row.drewN ?_ _) | (with_reducible refine Row.set2' ?_ _ _; first | exact ⟨_, _, by assumption⟩ | exact ⟨_, _, Row.alloc (by assumption) _⟩) | (with_reducible refine Row.other ?_ (by first | omega | (simp; omega)) _)))
    have c_o_0_4 := R_o_4.cell 0 rfl
    have c_o_1_4 := R_o_4.cell 1 rfl
    have z_o_0_4 := R_o_4.frozen 0
    have z_o_1_4 := R_o_4.frozen 1
    have l_o_4 := R_o_4.lt
    have HB4 : Below w.heap.size w w4 := by (repeat' (first | (with_reducible first | exact Below.refl _ _ | assumption | exact Bw.out (by assumption) | refine bw_alloc ?_ _ | refine bw_step ?_ (by assumption) | refine Below.alloc ?_ ?_ _ | refine Below.drew ?_ | refine below_drewN ?_ _ | refine Below.setCell ?_ ?_ _ | refine below_step ?_ (by assumption) ?_ | exact Nat.le_refl _) | omega | (simp; omega) | (simp; done)))
    clear R_e_3 c_e_0_3 c_e_1_3 c_e_2_3 R_v_3 c_v_0_3 c_v_1_3 c_v_2_3 c_v_3_3 R_o_3 c_o_0_3 c_o_1_3 z_o_0_3 z_o_1_3 hb3 HB3
    cases p3 with
    | false =>
     obtain ⟨rfl, rfl, rfl⟩ := HBB.out HVB.out
     go_wp2_with fail
     refine (infer_p x _ (HIN.out.step HB4) V E HV.out HE.out).mono ?_
     rintro e w5 ⟨rfl, hb5⟩
     have R_e_5 : Row w5 (w.heap.size) [.int .i64 x.op, .int .i64 x.n, .slice x.at' x.ks.length x.cap] := by (repeat' (first | (with_reducible assumption) | (with_reducible refine Row.new' _ _ _ (by first | rfl | (simp; done) | omega)) | (with_reducible first | refine Row.alloc ?_ _ | refine Row.drew ?_ | refine Row.step ?_ (by assumption) | refine Row.drewN ?_ _) | (with_reducible refine Row.set2' ?_ _ _; first | exact ⟨_, _, by assumption⟩ | exact ⟨_, _, Row.alloc (by assumption) _⟩) | (with_reducible refine Row.other ?_ (by first | omega | (simp; omega)) _)))
     have c_e_0_5 := R_e_5.cell 0 rfl
     have c_e_1_5 := R_e_5.cell 1 rfl
     have c_e_2_5 := R_e_5.cell 2 rfl
     have l_e_5 := R_e_5.lt
     have R_v_5 : Row w5 (w.heap.size + 1) [.int .i64 (v0), .int .i64 (v1), .int .i64 (v2), .int .i64 (v3)] := by (repeat' (first | (with_reducible assumption) | (with_reducible refine Row.new' _ _ _ (by first | rfl | (simp; done) | omega)) | (with_reducible first | refine Row.alloc ?_ _ | refine Row.drew ?_ | refine Row.step ?_ (by assumption) | refine Row.drewN ?_ _) | (with_reducible refine Row.set2' ?_ _ _; first | exact ⟨_, _, by assumption⟩ | exact ⟨_, _, Row.alloc (by assumption) _⟩) | (with_reducible refine Row.other ?_ (by first | omega | (simp; omega)) _)))
     have c_v_0_5 := R_v_5.cell 0 rfl
     have c_v_1_5 := R_v_5.cell 1 rfl
     have c_v_2_5 := R_v_5.cell 2 rfl
     have c_v_3_5 := R_v_5.cell 3 rfl
     have l_v_5 := R_v_5.lt
     have R_o_5 : Row w5 (w.heap.size + 1 + 1) [.int .i64 (0), .int .i64 (0)] := by (repeat' (first | (with_reducible assumption) | (with_reducible refine Row.new' _ _ _ (by first | rfl | (simp; done) | omega)) | (with_reducible first | refine Row.alloc ?_ _ | refine Row.drew ?_ | refine Row.step ?_ (by assumption) | refine Row.drewN ?_ _) | (with_reducible refine Row.set2' ?_ _ _; first | exact ⟨_, _, by assumption⟩ | exact ⟨_, _, Row.alloc (by assumption) _⟩) | (with_reducible refine Row.other ?_ (by first | omega | (simp; omega)) _)))
     have c_o_0_5 := R_o_5.cell 0 rfl
     have c_o_1_5 := R_o_5.cell 1 rfl
     have z_o_0_5 := R_o_5.frozen 0
     have z_o_1_5 := R_o_5.frozen 1
     have l_o_5 := R_o_5.lt
     have HB5 : Below w.heap.size w w5 := by (repeat' (first | (with_reducible first | exact Below.refl _ _ | assumption | exact Bw.out (by assumption) | refine bw_alloc ?_ _ | refine bw_step ?_ (by assumption) | refine Below.alloc ?_ ?_ _ | refine Below.drew ?_ | refine below_drewN ?_ _ | refine Below.setCell ?_ ?_ _ | refine below_step ?_ (by assumption) ?_ | exact Nat.le_refl _) | omega | (simp; omega) | (simp; done)))
     clear R_e_4 c_e_0_4 c_e_1_4 c_e_2_4 R_v_4 c_v_0_4 c_v_1_4 c_v_2_4 c_v_3_4 R_o_4 c_o_0_4 c_o_1_4 z_o_0_4 z_o_1_4 hb4 HB4
     by_cases hE : E = 0
     ·
      have hE' : (E != 0) = false := by simpa using hE
      clear hE
      go_wp2_with fail
      have RP := R_o_5.set2 (.int .i64 0) (.int .i64 0)
      have q0 := RP.cell 0 rfl
      have q1 := RP.cell 1 rfl
      refine bodyPost_ret (v := .tuple #[.agg #[.int .i64 0, .int .i64 0], .int .i64 1]) (by simp [results, Try.results49, go_sem, q0, q1]) rfl ⟨rfl, by (repeat' (first | (with_reducible first | exact Below.refl _ _ | assumption | exact Bw.out (by assumption) | refine bw_alloc ?_ _ | refine bw_step ?_ (by assumption) | refine Below.alloc ?_ ?_ _ | refine Below.drew ?_ | refine below_drewN ?_ _ | refine Below.setCell ?_ ?_ _ | refine below_step ?_ (by assumption) ?_ | exact Nat.le_refl _) | omega | (simp; omega) | (simp; done)))⟩
     ·
      have hE' : (E != 0) = true := by simpa using hE
      clear hE
      go_wp2_with fail
      have RP := R_o_5.set2 (.int .i64 0) (.int .i64 0)
      have q0 := RP.cell 0 rfl
      have q1 := RP.cell 1 rfl
      refine bodyPost_ret (v := .tuple #[.agg #[.int .i64 0, .int .i64 0], .int .i64 1]) (by simp [results, Try.results49, go_sem, q0, q1]) rfl ⟨rfl, by (repeat' (first | (with_reducible first | exact Below.refl _ _ | assumption | exact Bw.out (by assumption) | refine bw_alloc ?_ _ | refine bw_step ?_ (by assumption) | refine Below.alloc ?_ ?_ _ | refine Below.drew ?_ | refine below_drewN ?_ _ | refine Below.setCell ?_ ?_ _ | refine below_step ?_ (by assumption) ?_ | exact Nat.le_refl _) | omega | (simp; omega) | (simp; done)))⟩
    | true =>
     go_wp2_with fail
     refine (infer_p x _ (HIN.out.step HB4) V E HV.out HE.out).mono ?_
     rintro e w5 ⟨rfl, hb5⟩
     have R_e_5 : Row w5 (w.heap.size) [.int .i64 x.op, .int .i64 x.n, .slice x.at' x.ks.length x.cap] := by (repeat' (first | (with_reducible assumption) | (with_reducible refine Row.new' _ _ _ (by first | rfl | (simp; done) | omega)) | (with_reducible first | refine Row.alloc ?_ _ | refine Row.drew ?_ | refine Row.step ?_ (by assumption) | refine Row.drewN ?_ _) | (with_reducible refine Row.set2' ?_ _ _; first | exact ⟨_, _, by assumption⟩ | exact ⟨_, _, Row.alloc (by assumption) _⟩) | (with_reducible refine Row.other ?_ (by first | omega | (simp; omega)) _)))
     have c_e_0_5 := R_e_5.cell 0 rfl
     have c_e_1_5 := R_e_5.cell 1 rfl
     have c_e_2_5 := R_e_5.cell 2 rfl
     have l_e_5 := R_e_5.lt
     have R_v_5 : Row w5 (w.heap.size + 1) [.int .i64 (v0), .int .i64 (v1), .int .i64 (v2), .int .i64 (v3)] := by (repeat' (first | (with_reducible assumption) | (with_reducible refine Row.new' _ _ _ (by first | rfl | (simp; done) | omega)) | (with_reducible first | refine Row.alloc ?_ _ | refine Row.drew ?_ | refine Row.step ?_ (by assumption) | refine Row.drewN ?_ _) | (with_reducible refine Row.set2' ?_ _ _; first | exact ⟨_, _, by assumption⟩ | exact ⟨_, _, Row.alloc (by assumption) _⟩) | (with_reducible refine Row.other ?_ (by first | omega | (simp; omega)) _)))
     have c_v_0_5 := R_v_5.cell 0 rfl
     have c_v_1_5 := R_v_5.cell 1 rfl
     have c_v_2_5 := R_v_5.cell 2 rfl
     have c_v_3_5 := R_v_5.cell 3 rfl
     have l_v_5 := R_v_5.lt
     have R_o_5 : Row w5 (w.heap.size + 1 + 1) [.int .i64 (0), .int .i64 (0)] := by (repeat' (first | (with_reducible assumption) | (with_reducible refine Row.new' _ _ _ (by first | rfl | (simp; done) | omega)) | (with_reducible first | refine Row.alloc ?_ _ | refine Row.drew ?_ | refine Row.step ?_ (by assumption) | refine Row.drewN ?_ _) | (with_reducible refine Row.set2' ?_ _ _; first | exact ⟨_, _, by assumption⟩ | exact ⟨_, _, Row.alloc (by assumption) _⟩) | (with_reducible refine Row.other ?_ (by first | omega | (simp; omega)) _)))
     have c_o_0_5 := R_o_5.cell 0 rfl
     have c_o_1_5 := R_o_5.cell 1 rfl
     have z_o_0_5 := R_o_5.frozen 0
     have z_o_1_5 := R_o_5.frozen 1
     have l_o_5 := R_o_5.lt
     have HB5 : Below w.heap.size w w5 := by (repeat' (first | (with_reducible first | exact Below.refl _ _ | assumption | exact Bw.out (by assumption) | refine bw_alloc ?_ _ | refine bw_step ?_ (by assumption) | refine Below.alloc ?_ ?_ _ | refine Below.drew ?_ | refine below_drewN ?_ _ | refine Below.setCell ?_ ?_ _ | refine below_step ?_ (by assumption) ?_ | exact Nat.le_refl _) | omega | (simp; omega) | (simp; done)))
     clear R_e_4 c_e_0_4 c_e_1_4 c_e_2_4 R_v_4 c_v_0_4 c_v_1_4 c_v_2_4 c_v_3_4 R_o_4 c_o_0_4 c_o_1_4 z_o_0_4 z_o_1_4 hb4 HB4
     by_cases hE : E = 0
     ·
      have hE' : (E != 0) = false := by simpa using hE
      obtain ⟨g1, g2⟩ := HG.out hE HVB.out
      have G1 := Lib.hid g1
      have G2 := Lib.hid g2
      clear hE g1 g2
      go_wp2_with fail
      refine (value_p x v0 v1 v2 v3 _ (HIN.out.step HB5) G1.out N D F G2.out).mono ?_
      rintro e w6 ⟨rfl, hb6⟩
      have R_e_6 : Row w6 (w.heap.size) [.int .i64 x.op, .int .i64 x.n, .slice x.at' x.ks.length x.cap] := by (repeat' (first | (with_reducible assumption) | (with_reducible refine Row.new' _ _ _ (by first | rfl | (simp; done) | omega)) | (with_reducible first | refine Row.alloc ?_ _ | refine Row.drew ?_ | refine Row.step ?_ (by assumption) | refine Row.drewN ?_ _) | (with_reducible refine Row.set2' ?_ _ _; first | exact ⟨_, _, by assumption⟩ | exact ⟨_, _, Row.alloc (by assumption) _⟩) | (with_reducible refine Row.other ?_ (by first | omega | (simp; omega)) _)))
      have c_e_0_6 := R_e_6.cell 0 rfl
      have c_e_1_6 := R_e_6.cell 1 rfl
      have c_e_2_6 := R_e_6.cell 2 rfl
      have l_e_6 := R_e_6.lt
      have R_v_6 : Row w6 (w.heap.size + 1) [.int .i64 (v0), .int .i64 (v1), .int .i64 (v2), .int .i64 (v3)] := by (repeat' (first | (with_reducible assumption) | (with_reducible refine Row.new' _ _ _ (by first | rfl | (simp; done) | omega)) | (with_reducible first | refine Row.alloc ?_ _ | refine Row.drew ?_ | refine Row.step ?_ (by assumption) | refine Row.drewN ?_ _) | (with_reducible refine Row.set2' ?_ _ _; first | exact ⟨_, _, by assumption⟩ | exact ⟨_, _, Row.alloc (by assumption) _⟩) | (with_reducible refine Row.other ?_ (by first | omega | (simp; omega)) _)))
      have c_v_0_6 := R_v_6.cell 0 rfl
      have c_v_1_6 := R_v_6.cell 1 rfl
      have c_v_2_6 := R_v_6.cell 2 rfl
      have c_v_3_6 := R_v_6.cell 3 rfl
      have l_v_6 := R_v_6.lt
      have R_o_6 : Row w6 (w.heap.size + 1 + 1) [.int .i64 (0), .int .i64 (0)] := by (repeat' (first | (with_reducible assumption) | (with_reducible refine Row.new' _ _ _ (by first | rfl | (simp; done) | omega)) | (with_reducible first | refine Row.alloc ?_ _ | refine Row.drew ?_ | refine Row.step ?_ (by assumption) | refine Row.drewN ?_ _) | (with_reducible refine Row.set2' ?_ _ _; first | exact ⟨_, _, by assumption⟩ | exact ⟨_, _, Row.alloc (by assumption) _⟩) | (with_reducible refine Row.other ?_ (by first | omega | (simp; omega)) _)))
      have c_o_0_6 := R_o_6.cell 0 rfl
      have c_o_1_6 := R_o_6.cell 1 rfl
      have z_o_0_6 := R_o_6.frozen 0
      have z_o_1_6 := R_o_6.frozen 1
      have l_o_6 := R_o_6.lt
      have HB6 : Below w.heap.size w w6 := by (repeat' (first | (with_reducible first | exact Below.refl _ _ | assumption | exact Bw.out (by assumption) | refine bw_alloc ?_ _ | refine bw_step ?_ (by assumption) | refine Below.alloc ?_ ?_ _ | refine Below.drew ?_ | refine below_drewN ?_ _ | refine Below.setCell ?_ ?_ _ | refine below_step ?_ (by assumption) ?_ | exact Nat.le_refl _) | omega | (simp; omega) | (simp; done)))
      clear R_e_5 c_e_0_5 c_e_1_5 c_e_2_5 R_v_5 c_v_0_5 c_v_1_5 c_v_2_5 c_v_3_5 R_o_5 c_o_0_5 c_o_1_5 z_o_0_5 z_o_1_5 hb5 HB5
      go_wp2_with fail
      have RP := R_o_6.set2 (.int .i64 N) (.int .i64 D)
      have q0 := RP.cell 0 rfl
      have q1 := RP.cell 1 rfl
      refine bodyPost_ret (v := .tuple #[.agg #[.int .i64 N, .int .i64 D], .int .i64 F]) (by simp [results, Try.results49, go_sem, q0, q1]) rfl ⟨rfl, by (repeat' (first | (with_reducible first | exact Below.refl _ _ | assumption | exact Bw.out (by assumption) | refine bw_alloc ?_ _ | refine bw_step ?_ (by assumption) | refine Below.alloc ?_ ?_ _ | refine Below.drew ?_ | refine below_drewN ?_ _ | refine Below.setCell ?_ ?_ _ | refine below_step ?_ (by assumption) ?_ | exact Nat.le_refl _) | omega | (simp; omega) | (simp; done)))⟩
     ·
      have hE' : (E != 0) = true := by simpa using hE
      obtain ⟨rfl, rfl, rfl⟩ := HBA.out hE
      clear hE
      go_wp2_with fail
      have RP := R_o_5.set2 (.int .i64 0) (.int .i64 0)
      have q0 := RP.cell 0 rfl
      have q1 := RP.cell 1 rfl
      refine bodyPost_ret (v := .tuple #[.agg #[.int .i64 0, .int .i64 0], .int .i64 1]) (by simp [results, Try.results49, go_sem, q0, q1]) rfl ⟨rfl, by (repeat' (first | (with_reducible first | exact Below.refl _ _ | assumption | exact Bw.out (by assumption) | refine bw_alloc ?_ _ | refine bw_step ?_ (by assumption) | refine Below.alloc ?_ ?_ _ | refine Below.drew ?_ | refine below_drewN ?_ _ | refine Below.setCell ?_ ?_ _ | refine below_step ?_ (by assumption) ?_ | exact Nat.le_refl _) | omega | (simp; omega) | (simp; done)))⟩
end Go.Proofs.Ytcmodmchnokmgaa
