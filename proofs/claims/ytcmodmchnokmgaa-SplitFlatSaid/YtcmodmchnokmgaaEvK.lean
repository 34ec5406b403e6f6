/-
 The walks of package rate: Applies.
-/
import Derived.Test.YtcmodmchnokmgaaEvJ
import Derived.Test.YtcmodmchnokmgaaTyG
namespace Go.Proofs.Ytcmodmchnokmgaa
set_option linter.unusedSimpArgs false
set_option linter.unusedVariables false
open Go.RowKit
attribute [local go_sem ↓] ld_eq st_eq
attribute [local go_sem] ldR_run ldV_drew ldV_alloc ldV_at16 stR_run sz16_rate stB_drew stB_at16 stW_at16 stB_set ldV_set
theorem rate_pq (r : RateV) (w : World) (h : r.In w) (p : Bool) (E : Int) (hp : rateB r = p ∧ rateE r = E) :
  Calls Try.prog 18 #[.agg #[.int .i64 r.id, .int .i64 r.lv, .int .i64 r.kd, .int .i64 r.fr, .int .i64 r.un, .int .i64 r.ls, .int .i64 r.ms, .int .i64 r.ar, .int .i64 r.kn, .int .i64 r.kk, .int .i64 r.wh.op, .int .i64 r.wh.n, .slice r.wh.at' r.wh.ks.length r.wh.cap, .int .i64 r.pr.op, .int .i64 r.pr.n, .slice r.pr.at' r.pr.ks.length r.pr.cap]] w fun e w' => e = .returned (.tuple #[.bool p, .int .i64 E]) ∧ Below w.heap.size w w' := by
 obtain ⟨rfl, rfl⟩ := hp; exact rate_any r w h
theorem inN_within {nt fr un : Int} : inE nt fr (un - 1) = (decide (fr ≤ nt) && decide (nt < un)) := season_in
set_option maxRecDepth 100000 in
set_option maxHeartbeats 4000000 in
theorem Applies_any (r : RateV) (k fr un ps nt : Int) (w : World) (h : r.In w) (B : Bool) (E : Int) (hR : applV r ⟨k, fr, un, ps⟩ nt = (B, E)) :
  Calls Try.prog 25 #[.agg #[.int .i64 r.id, .int .i64 r.lv, .int .i64 r.kd, .int .i64 r.fr, .int .i64 r.un, .int .i64 r.ls, .int .i64 r.ms, .int .i64 r.ar, .int .i64 r.kn, .int .i64 r.kk, .int .i64 r.wh.op, .int .i64 r.wh.n, .slice r.wh.at' r.wh.ks.length r.wh.cap, .int .i64 r.pr.op, .int .i64 r.pr.n, .slice r.pr.at' r.pr.ks.length r.pr.cap], .agg #[.int .i64 k, .int .i64 fr, .int .i64 un, .int .i64 ps], .int .i64 nt] w fun e w' => e = .returned (.tuple #[.bool B, .int .i64 E]) ∧ Below w.heap.size w w' := by
 have HIN := Lib.hid h
 obtain ⟨p1, hp1⟩ : ∃ p, rateB r = p := ⟨_, rfl⟩
 obtain ⟨e1, he1⟩ : ∃ p, rateE r = p := ⟨_, rfl⟩
 obtain ⟨p2, hp2⟩ : ∃ p, askB ⟨k, fr, un, ps⟩ = p := ⟨_, rfl⟩
 obtain ⟨p3, hp3⟩ : ∃ p, inE nt fr (un - 1) = p := ⟨_, rfl⟩
 have hno : (p1 && (p2 && p3)) = false → B = false ∧ E = 1 := fun hf => by
  have h1 := hR
  unfold applV inN at h1
  rw [hp1, hp2, ← inN_within, hp3, hf] at h1
  simp only [Bool.false_eq_true, if_false, Prod.mk.injEq] at h1
  exact ⟨h1.1.symm, h1.2.symm⟩
 have hyes : p1 = true → p2 = true → p3 = true → appl r ⟨k, fr, un, ps⟩ nt = (B, E) ∧ (fr ≤ nt ∧ nt < un) := fun q1 q2 q3 => by
  have h1 := hR
  unfold applV inN at h1
  rw [hp1, hp2, ← inN_within, hp3, q1, q2, q3] at h1
  refine ⟨by simpa using h1, ?_⟩
  rw [q3] at hp3
  rw [inN_within] at hp3
  simpa using hp3
 have HP1 := Lib.hid hp1
 have HE1 := Lib.hid he1
 have HP2 := Lib.hid hp2
 have HP3 := Lib.hid hp3
 have HNO := Lib.hid hno
 have HYES := Lib.hid hyes
 have hun : p2 = true → 1 ≤ un ∧ un ≤ 366 := fun h => by
  obtain ⟨⟨b1, b2, b3, b4⟩, _, _⟩ := askB_in (hp2.trans h)
  simp only at b1 b2 b3 b4
  omega
 clear hR hp1 he1 hp2 hp3 hno hyes h
 go_enter Try.func25, Try.ntmps25
 go_wp2_with fail
 refine (rate_pq r _ (HIN.out.step (((Below.refl w.heap.size w).alloc (Nat.le_refl _) _).alloc (by simp) _)) p1 e1 ⟨HP1.out, HE1.out⟩).mono ?_
 rintro e w1 ⟨rfl, hb1⟩
 have R_q_1 : Row w1 (w.heap.size) [.int .i64 r.id, .int .i64 r.lv, .int .i64 r.kd, .int .i64 r.fr, .int .i64 r.un, .int .i64 r.ls, .int .i64 r.ms, .int .i64 r.ar, .int .i64 r.kn, .int .i64 r.kk, .int .i64 r.wh.op, .int .i64 r.wh.n, .slice r.wh.at' r.wh.ks.length r.wh.cap, .int .i64 r.pr.op, .int .i64 r.pr.n, .slice r.pr.at' r.pr.ks.length r.pr.cap] := by (repeat' (first | (with_reducible assumption) | (with_reducible refine Row.new' _ _ _ (by first | rfl | (simp; done) | omega)) | (with_reducible first | refine Row.alloc ?_ _ | refine Row.drew ?_ | refine Row.step ?_ (by assumption) | refine Row.drewN ?_ _) | (with_reducible refine Row.set2' ?_ _ _; first | exact ⟨_, _, by assumption⟩ | exact ⟨_, _, Row.alloc (by assumption) _⟩) | (with_reducible refine Row.other ?_ (by first | omega | (simp; omega)) _)))
 have c_q_0_1 := R_q_1.cell 0 rfl
 have c_q_1_1 := R_q_1.cell 1 rfl
 have c_q_2_1 := R_q_1.cell 2 rfl
 have c_q_3_1 := R_q_1.cell 3 rfl
 have c_q_4_1 := R_q_1.cell 4 rfl
 have c_q_5_1 := R_q_1.cell 5 rfl
 have c_q_6_1 := R_q_1.cell 6 rfl
 have c_q_7_1 := R_q_1.cell 7 rfl
 have c_q_8_1 := R_q_1.cell 8 rfl
 have c_q_9_1 := R_q_1.cell 9 rfl
 have c_q_10_1 := R_q_1.cell 10 rfl
 have c_q_11_1 := R_q_1.cell 11 rfl
 have c_q_12_1 := R_q_1.cell 12 rfl
 have c_q_13_1 := R_q_1.cell 13 rfl
 have c_q_14_1 := R_q_1.cell 14 rfl
 have c_q_15_1 := R_q_1.cell 15 rfl
 have d_q_1 := ldV_row R_q_1 rfl
 have l_q_1 := R_q_1.lt
 have R_a_1 : Row w1 (w.heap.size + 1) [.int .i64 (k), .int .i64 (fr), .int .i64 (un), .int .i64 (ps)] := by (repeat' (first | (with_reducible assumption) | (with_reducible refine Row.new' _ _ _ (by first | rfl | (simp; done) | omega)) | (with_reducible first | refine Row.alloc ?_ _ | refine Row.drew ?_ | refine Row.step ?_ (by assumption) | refine Row.drewN ?_ _) | (with_reducible refine Row.set2' ?_ _ _; first | exact ⟨_, _, by assumption⟩ | exact ⟨_, _, Row.alloc (by assumption) _⟩) | (with_reducible refine Row.other ?_ (by first | omega | (simp; omega)) _)))
 have c_a_0_1 := R_a_1.cell 0 rfl
 have c_a_1_1 := R_a_1.cell 1 rfl
 have c_a_2_1 := R_a_1.cell 2 rfl
 have c_a_3_1 := R_a_1.cell 3 rfl
 have l_a_1 := R_a_1.lt
 have HB1 : Below w.heap.size w w1 := by (repeat' (first | (with_reducible first | exact Below.refl _ _ | assumption | exact Bw.out (by assumption) | refine bw_alloc ?_ _ | refine bw_step ?_ (by assumption) | refine Below.alloc ?_ ?_ _ | refine Below.drew ?_ | refine below_drewN ?_ _ | refine Below.setCell ?_ ?_ _ | refine below_step ?_ (by assumption) ?_ | exact Nat.le_refl _) | omega | (simp; omega) | (simp; done)))
 cases p1 with
 | false =>
  obtain ⟨rfl, rfl⟩ := HNO.out rfl
  go_wp2_with fail
  go_returns
  refine ⟨rfl, ?_⟩
  (repeat' (first | (with_reducible first | exact Below.refl _ _ | assumption | exact Bw.out (by assumption) | refine bw_alloc ?_ _ | refine bw_step ?_ (by assumption) | refine Below.alloc ?_ ?_ _ | refine Below.drew ?_ | refine below_drewN ?_ _ | refine Below.setCell ?_ ?_ _ | refine below_step ?_ (by assumption) ?_ | exact Nat.le_refl _) | omega | (simp; omega) | (simp; done)))
 | true =>
  go_wp2_with fail
  refine (right_p k fr un ps p2 HP2.out _).mono ?_
  rintro e w2 ⟨rfl, hb2⟩
  have R_q_2 : Row w2 (w.heap.size) [.int .i64 r.id, .int .i64 r.lv, .int .i64 r.kd, .int .i64 r.fr, .int .i64 r.un, .int .i64 r.ls, .int .i64 r.ms, .int .i64 r.ar, .int .i64 r.kn, .int .i64 r.kk, .int .i64 r.wh.op, .int .i64 r.wh.n, .slice r.wh.at' r.wh.ks.length r.wh.cap, .int .i64 r.pr.op, .int .i64 r.pr.n, .slice r.pr.at' r.pr.ks.length r.pr.cap] := by (repeat' (first | (with_reducible assumption) | (with_reducible refine Row.new' _ _ _ (by first | rfl | (simp; done) | omega)) | (with_reducible first | refine Row.alloc ?_ _ | refine Row.drew ?_ | refine Row.step ?_ (by assumption) | refine Row.drewN ?_ _) | (with_reducible refine Row.set2' ?_ _ _; first | exact ⟨_, _, by assumption⟩ | exact ⟨_, _, Row.alloc (by assumption) _⟩) | (with_reducible refine Row.other ?_ (by first | omega | (simp; omega)) _)))
  have c_q_0_2 := R_q_2.cell 0 rfl
  have c_q_1_2 := R_q_2.cell 1 rfl
  have c_q_2_2 := R_q_2.cell 2 rfl
  have c_q_3_2 := R_q_2.cell 3 rfl
  have c_q_4_2 := R_q_2.cell 4 rfl
  have c_q_5_2 := R_q_2.cell 5 rfl
  have c_q_6_2 := R_q_2.cell 6 rfl
  have c_q_7_2 := R_q_2.cell 7 rfl
  have c_q_8_2 := R_q_2.cell 8 rfl
  have c_q_9_2 := R_q_2.cell 9 rfl
  have c_q_10_2 := R_q_2.cell 10 rfl
  have c_q_11_2 := R_q_2.cell 11 rfl
  have c_q_12_2 := R_q_2.cell 12 rfl
  have c_q_13_2 := R_q_2.cell 13 rfl
  have c_q_14_2 := R_q_2.cell 14 rfl
  have c_q_15_2 := R_q_2.cell 15 rfl
  have d_q_2 := ldV_row R_q_2 rfl
  have l_q_2 := R_q_2.lt
  have R_a_2 : Row w2 (w.heap.size + 1) [.int .i64 (k), .int .i64 (fr), .int .i64 (un), .int .i64 (ps)] := by (repeat' (first | (with_reducible assumption) | (with_reducible refine Row.new' _ _ _ (by first | rfl | (simp; done) | omega)) | (with_reducible first | refine Row.alloc ?_ _ | refine Row.drew ?_ | refine Row.step ?_ (by assumption) | refine Row.drewN ?_ _) | (with_reducible refine Row.set2' ?_ _ _; first | exact ⟨_, _, by assumption⟩ | exact ⟨_, _, Row.alloc (by assumption) _⟩) | (with_reducible refine Row.other ?_ (by first | omega | (simp; omega)) _)))
  have c_a_0_2 := R_a_2.cell 0 rfl
  have c_a_1_2 := R_a_2.cell 1 rfl
  have c_a_2_2 := R_a_2.cell 2 rfl
  have c_a_3_2 := R_a_2.cell 3 rfl
  have l_a_2 := R_a_2.lt
  have HB2 : Below w.heap.size w w2 := by (repeat' (first | (with_reducible first | exact Below.refl _ _ | assumption | exact Bw.out (by assumption) | refine bw_alloc ?_ _ | refine bw_step ?_ (by assumption) | refine Below.alloc ?_ ?_ _ | refine Below.drew ?_ | refine below_drewN ?_ _ | refine Below.setCell ?_ ?_ _ | refine below_step ?_ (by assumption) ?_ | exact Nat.le_refl _) | omega | (simp; omega) | (simp; done)))
  clear R_q_1 c_q_0_1 c_q_1_1 c_q_2_1 c_q_3_1 c_q_4_1 c_q_5_1 c_q_6_1 c_q_7_1 c_q_8_1 c_q_9_1 c_q_10_1 c_q_11_1 c_q_12_1 c_q_13_1 c_q_14_1 c_q_15_1 d_q_1 R_a_1 c_a_0_1 c_a_1_1 c_a_2_1 c_a_3_1 hb1 HB1
  cases p2 with
  | false =>
   obtain ⟨rfl, rfl⟩ := HNO.out rfl
   go_wp2_with fail
   go_returns
   refine ⟨rfl, ?_⟩
   (repeat' (first | (with_reducible first | exact Below.refl _ _ | assumption | exact Bw.out (by assumption) | refine bw_alloc ?_ _ | refine bw_step ?_ (by assumption) | refine Below.alloc ?_ ?_ _ | refine Below.drew ?_ | refine below_drewN ?_ _ | refine Below.setCell ?_ ?_ _ | refine below_step ?_ (by assumption) ?_ | exact Nat.le_refl _) | omega | (simp; omega) | (simp; done)))
  | true =>
   obtain ⟨un1, un2⟩ := hun (by simp)
   clear hun
   go_wp2_with fail
   refine (rwithin_p nt fr (un - 1) p3 HP3.out _).mono ?_
   rintro e w3 ⟨rfl, hb3⟩
   have R_q_3 : Row w3 (w.heap.size) [.int .i64 r.id, .int .i64 r.lv, .int .i64 r.kd, .int .i64 r.fr, .int .i64 r.un, .int .i64 r.ls, .int .i64 r.ms, .int .i64 r.ar, .int .i64 r.kn, .int .i64 r.kk, .int .i64 r.wh.op, .int .i64 r.wh.n, .slice r.wh.at' r.wh.ks.length r.wh.cap, .int .i64 r.pr.op, .int .i64 r.pr.n, .slice r.pr.at' r.pr.ks.length r.pr.cap] := by (repeat' (first | (with_reducible assumption) | (with_reducible refine Row.new' _ _ _ (by first | rfl | (simp; done) | omega)) | (with_reducible first | refine Row.alloc ?_ _ | refine Row.drew ?_ | refine Row.step ?_ (by assumption) | refine Row.drewN ?_ _) | (with_reducible refine Row.set2' ?_ _ _; first | exact ⟨_, _, by assumption⟩ | exact ⟨_, _, Row.alloc (by assumption) _⟩) | (with_reducible refine Row.other ?_ (by first | omega | (simp; omega)) _)))
   have c_q_0_3 := R_q_3.cell 0 rfl
   have c_q_1_3 := R_q_3.cell 1 rfl
   have c_q_2_3 := R_q_3.cell 2 rfl
   have c_q_3_3 := R_q_3.cell 3 rfl
   have c_q_4_3 := R_q_3.cell 4 rfl
   have c_q_5_3 := R_q_3.cell 5 rfl
   have c_q_6_3 := R_q_3.cell 6 rfl
   have c_q_7_3 := R_q_3.cell 7 rfl
   have c_q_8_3 := R_q_3.cell 8 rfl
   have c_q_9_3 := R_q_3.cell 9 rfl
   have c_q_10_3 := R_q_3.cell 10 rfl
   have c_q_11_3 := R_q_3.cell 11 rfl
   have c_q_12_3 := R_q_3.cell 12 rfl
   have c_q_13_3 := R_q_3.cell 13 rfl
   have c_q_14_3 := R_q_3.cell 14 rfl
   have c_q_15_3 := R_q_3.cell 15 rfl
   have d_q_3 := ldV_row R_q_3 rfl
   have l_q_3 := R_q_3.lt
   have R_a_3 : Row w3 (w.heap.size + 1) [.int .i64 (k), .int .i64 (fr), .int .i64 (un), .int .i64 (ps)] := by (repeat' (first | (with_reducible assumption) | (with_reducible refine Row.new' _ _ _ (by first | rfl | (simp; done) | omega)) | (with_reducible first | refine Row.alloc ?_ _ | refine Row.drew ?_ | refine Row.step ?_ (by assumption) | refine Row.drewN ?_ _) | (with_reducible refine Row.set2' ?_ _ _; first | exact ⟨_, _, by assumption⟩ | exact ⟨_, _, Row.alloc (by assumption) _⟩) | (with_reducible refine Row.other ?_ (by first | omega | (simp; omega)) _)))
   have c_a_0_3 := R_a_3.cell 0 rfl
   have c_a_1_3 := R_a_3.cell 1 rfl
   have c_a_2_3 := R_a_3.cell 2 rfl
   have c_a_3_3 := R_a_3.cell 3 rfl
   have l_a_3 := R_a_3.lt
   have HB3 : Below w.heap.size w w3 := by (repeat' (first | (with_reducible first | exact Below.refl _ _ | assumption | exact Bw.out (by assumption) | refine bw_alloc ?_ _ | refine bw_step ?_ (by assumption) | refine Below.alloc ?_ ?_ _ | refine Below.drew ?_ | refine below_drewN ?_ _ | refine Below.setCell ?_ ?_ _ | refine below_step ?_ (by assumption) ?_ | exact Nat.le_refl _) | omega | (simp; omega) | (simp; done)))
   clear R_q_2 c_q_0_2 c_q_1_2 c_q_2_2 c_q_3_2 c_q_4_2 c_q_5_2 c_q_6_2 c_q_7_2 c_q_8_2 c_q_9_2 c_q_10_2 c_q_11_2 c_q_12_2 c_q_13_2 c_q_14_2 c_q_15_2 d_q_2 R_a_2 c_a_0_2 c_a_1_2 c_a_2_2 c_a_3_2 hb2 HB2
   cases p3 with
   | false =>
    obtain ⟨rfl, rfl⟩ := HNO.out rfl
    go_wp2_with fail
    go_returns
    refine ⟨rfl, ?_⟩
    (repeat' (first | (with_reducible first | exact Below.refl _ _ | assumption | exact Bw.out (by assumption) | refine bw_alloc ?_ _ | refine bw_step ?_ (by assumption) | refine Below.alloc ?_ ?_ _ | refine Below.drew ?_ | refine below_drewN ?_ _ | refine Below.setCell ?_ ?_ _ | refine below_step ?_ (by assumption) ?_ | exact Nat.le_refl _) | omega | (simp; omega) | (simp; done)))
   | true =>
    obtain ⟨y1, y2⟩ := HYES.out (by simp) (by simp) (by simp)
    have HY1 := Lib.hid y1
    have HY2 := Lib.hid y2
    clear y1 y2
    go_wp2_with fail
    refine (applies_p r k fr un ps nt _ (HIN.out.step HB3) (rateB_form HP1.out).1 HP2.out HY2.out B E HY1.out).mono ?_
    rintro e w4 ⟨rfl, hb4⟩
    have R_q_4 : Row w4 (w.heap.size) [.int .i64 r.id, .int .i64 r.lv, .int .i64 r.kd, .int .i64 r.fr, .int .i64 r.un, .int .i64 r.ls, .int .i64 r.ms, .int .i64 r.ar, .int .i64 r.kn, .int .i64 r.kk, .int .i64 r.wh.op, .int .i64 r.wh.n, .slice r.wh.at' r.wh.ks.length r.wh.cap, .int .i64 r.pr.op, .int .i64 r.pr.n, .slice r.pr.at' r.pr.ks.length r.pr.cap] := by (repeat' (first | (with_reducible assumption) | (with_reducible refine Row.new' _ _ _ (by first | rfl | (simp; done) | omega)) | (with_reducible first | refine Row.alloc ?_ _ | refine Row.drew ?_ | refine Row.step ?_ (by assumption) | refine Row.drewN ?_ _) | (with_reducible refine Row.set2' ?_ _ _; first | exact ⟨_, _, by assumption⟩ | exact ⟨_, _, Row.alloc (by assumption) _⟩) | (with_reducible refine Row.other ?_ (by first | omega | (simp; omega)) _)))
    have c_q_0_4 := R_q_4.cell 0 rfl
    have c_q_1_4 := R_q_4.cell 1 rfl
    have c_q_2_4 := R_q_4.cell 2 rfl
    have c_q_3_4 := R_q_4.cell 3 rfl
    have c_q_4_4 := R_q_4.cell 4 rfl
    have c_q_5_4 := R_q_4.cell 5 rfl
    have c_q_6_4 := R_q_4.cell 6 rfl
    have c_q_7_4 := R_q_4.cell 7 rfl
    have c_q_8_4 := R_q_4.cell 8 rfl
    have c_q_9_4 := R_q_4.cell 9 rfl
    have c_q_10_4 := R_q_4.cell 10 rfl
    have c_q_11_4 := R_q_4.cell 11 rfl
    have c_q_12_4 := R_q_4.cell 12 rfl
    have c_q_13_4 := R_q_4.cell 13 rfl
    have c_q_14_4 := R_q_4.cell 14 rfl
    have c_q_15_4 := R_q_4.cell 15 rfl
    have d_q_4 := ldV_row R_q_4 rfl
    have l_q_4 := R_q_4.lt
    have R_a_4 : Row w4 (w.heap.size + 1) [.int .i64 (k), .int .i64 (fr), .int .i64 (un), .int .i64 (ps)] := by (repeat' (first | (with_reducible assumption) | (with_reducible refine Row.new' _ _ _ (by first | rfl | (simp; done) | omega)) | (with_reducible first | refine Row.alloc ?_ _ | refine Row.drew ?_ | refine Row.step ?_ (by assumption) | refine Row.drewN ?_ _) | (with_reducible refine Row.set2' ?_ _ _; first | exact ⟨_, _, by assumption⟩ | exact ⟨_, _, Row.alloc (by assumption) _⟩) | (with_reducible refine Row.other ?_ (by first | omega | (simp; omega)) _)))
    have c_a_0_4 := R_a_4.cell 0 rfl
    have c_a_1_4 := R_a_4.cell 1 rfl
    have c_a_2_4 := R_a_4.cell 2 rfl
    have c_a_3_4 := R_a_4.cell 3 rfl
    have l_a_4 := R_a_4.lt
    have HB4 : Below w.heap.size w w4 := by (repeat' (first | (with_reducible first | exact Below.refl _ _ | assumption | exact Bw.out (by assumption) | refine bw_alloc ?_ _ | refine bw_step ?_ (by assumption) | refine Below.alloc ?_ ?_ _ | refine Below.drew ?_ | refine below_drewN ?_ _ | refine Below.setCell ?_ ?_ _ | refine below_step ?_ (by assumption) ?_ | exact Nat.le_refl _) | omega | (simp; omega) | (simp; done)))
    clear R_q_3 c_q_0_3 c_q_1_3 c_q_2_3 c_q_3_3 c_q_4_3 c_q_5_3 c_q_6_3 c_q_7_3 c_q_8_3 c_q_9_3 c_q_10_3 c_q_11_3 c_q_12_3 c_q_13_3 c_q_14_3 c_q_15_3 d_q_3 R_a_3 c_a_0_3 c_a_1_3 c_a_2_3 c_a_3_3 hb3 HB3
    go_wp2_with fail
    go_returns
    refine ⟨rfl, ?_⟩
    (repeat' (first | (with_reducible first | exact Below.refl _ _ | assumption | exact Bw.out (by assumption) | refine bw_alloc ?_ _ | refine bw_step ?_ (by assumption) | refine Below.alloc ?_ ?_ _ | refine Below.drew ?_ | refine below_drewN ?_ _ | refine Below.setCell ?_ ?_ _ | refine below_step ?_ (by assumption) ?_ | exact Nat.le_refl _) | omega | (simp; omega) | (simp; done)))
end Go.Proofs.Ytcmodmchnokmgaa
