/-
 The walks of package rate: applies, Applies.
-/
import Derived.Test.YtcmodmchnokmgaaEvI
import Derived.Test.YtcmodmchnokmgaaRatU
namespace Go.Proofs.Ytcmodmchnokmgaa
set_option linter.unusedSimpArgs false
set_option linter.unusedVariables false
open Go.RowKit
attribute [local go_sem ↓] ld_eq st_eq
attribute [local go_sem] ldR_run ldV_drew ldV_alloc ldV_at16 stR_run sz16_rate stB_drew stB_at16 stW_at16 stB_set ldV_set
theorem season_in {nt fr un : Int} : inE nt fr (un - 1) = (decide (fr ≤ nt) && decide (nt < un)) := by
 unfold inE
 rw [Bool.eq_iff_iff]
 simp only [Bool.and_eq_true, decide_eq_true_eq]
 omega
set_option maxRecDepth 100000 in
set_option maxHeartbeats 4000000 in
theorem applies_any (r : RateV) (k fr un ps nt : Int) (w : World) (h : r.In w) (hf : formB r = true) (ha : askB ⟨k, fr, un, ps⟩ = true) (hn : fr ≤ nt ∧ nt < un) (B : Bool) (E : Int) (hR : appl r ⟨k, fr, un, ps⟩ nt = (B, E)) :
  Calls Try.prog 54 #[.agg #[.int .i64 r.id, .int .i64 r.lv, .int .i64 r.kd, .int .i64 r.fr, .int .i64 r.un, .int .i64 r.ls, .int .i64 r.ms, .int .i64 r.ar, .int .i64 r.kn, .int .i64 r.kk, .int .i64 r.wh.op, .int .i64 r.wh.n, .slice r.wh.at' r.wh.ks.length r.wh.cap, .int .i64 r.pr.op, .int .i64 r.pr.n, .slice r.pr.at' r.pr.ks.length r.pr.cap], .agg #[.int .i64 k, .int .i64 fr, .int .i64 un, .int .i64 ps], .int .i64 nt] w fun e w' => e = .returned (.tuple #[.bool B, .int .i64 E]) ∧ Below w.heap.size w w' := by
 have HIN := Lib.hid h
 obtain ⟨⟨a1, a2, a3, a4⟩, _, _⟩ := askB_in ha
 simp only at a1 a2 a3 a4
 obtain ⟨n1, n2⟩ := hn
 have HAV := Lib.hid (fun w => vars_any k fr un ps nt w ha ⟨n1, n2⟩)
 have HWV := Lib.hid (validE_ok (formB_valid hf).1)
 have hu : 1 ≤ r.un ∧ r.un ≤ 366 := by
  unfold formB at hf
  simp only [Bool.and_eq_true, decide_eq_true_eq] at hf
  omega
 have har : 1 ≤ r.ar ∧ r.ar ≤ 127 := by
  unfold formB inE at hf
  simp only [Bool.and_eq_true, decide_eq_true_eq] at hf
  omega
 obtain ⟨u1, u2⟩ := hu
 have HR := Lib.hid hR
 have hd := dayI_range fr
 have HD := weekday_any fr
 obtain ⟨d, hdd⟩ : ∃ d, dayI fr = d := ⟨_, rfl⟩
 rw [hdd] at HD hd
 have HDW := Lib.hid HD
 have HDD := Lib.hid hdd
 obtain ⟨p1, hp⟩ : ∃ p, inE nt r.fr (r.un - 1) = p := ⟨_, rfl⟩
 have HP1 := Lib.hid hp
 clear hp
 obtain ⟨p2, hp⟩ : ∃ p, inE (un - fr) r.ls r.ms = p := ⟨_, rfl⟩
 have HP2 := Lib.hid hp
 obtain ⟨bb, hbb⟩ : ∃ b, bitB r.ar d = b := ⟨_, rfl⟩
 have hfit : fitsR r ⟨k, fr, un, ps⟩ nt = (decide (r.kd = k) && (p1 && (p2 && bb))) := by
  unfold fitsR
  rw [← HP1.out, ← HP2.out, season_in, ← hbb, ← hdd]
  unfold inE
  rfl
 have hbits : (bits BinOp.and IntKind.i64 (r.ar / 2 ^ d.toNat) 1 == 0) = !bb := by
  rw [and_one_i64, ← hbb]
  unfold bitB
  have := Int.emod_two_eq (r.ar / 2 ^ d.toNat)
  rcases this with e | e <;> rw [e] <;> rfl
 have hno : fitsR r ⟨k, fr, un, ps⟩ nt = false → B = false ∧ E = 0 := fun h => by
  have h1 := HR.out
  unfold appl at h1
  rw [h] at h1
  simp only [Bool.false_eq_true, if_false, Prod.mk.injEq] at h1
  exact ⟨h1.1.symm, h1.2.symm⟩
 obtain ⟨N, D, F, hev⟩ : ∃ N D F, r.wh.ev (var4 (un - fr) ps (nt - fr) (dayI nt)) = (N, D, F) := ⟨_, _, _, rfl⟩
 have hyes : fitsR r ⟨k, fr, un, ps⟩ nt = true → B = (N == 1) ∧ E = F := fun h => by
  have h1 := HR.out
  unfold appl at h1
  rw [h, if_pos rfl] at h1
  simp only [Prod.mk.injEq] at h1
  rw [show (⟨k, fr, un, ps⟩ : AskV).vars nt = var4 (un - fr) ps (nt - fr) (dayI nt) from rfl, hev] at h1
  exact ⟨h1.1.symm, h1.2.symm⟩
 have HEV := Lib.hid hev
 have HFIT := Lib.hid hfit
 have HNO := Lib.hid hno
 have HYES := Lib.hid hyes
 clear hp h hf ha hR HD hdd hbb hfit hno hyes hev
 go_enter Try.func54, Try.ntmps54
 go_wp2_with fail
 refine (HDW.out _).mono ?_
 rintro e w1 ⟨rfl, hb1⟩
 have R_q_1 : Row w1 (w.heap.size) [.int .i64 r.id, .int .i64 r.lv, .int .i64 r.kd, .int .i64 r.fr, .int .i64 r.un, .int .i64 r.ls, .int .i64 r.ms, .int .i64 r.ar, .int .i64 r.kn, .int .i64 r.kk, .int .i64 r.wh.op, .int .i64 r.wh.n, .slice r.wh.at' r.wh.ks.length r.wh.cap, .int .i64 r.pr.op, .int .i64 r.pr.n, .slice r.pr.at' r.pr.ks.length r.pr.cap] := by (repeat' (first | (with_reducible assumption) | (with_reducible refine Row.new' _ _ _ (by first | rfl | (simp; done) | omega)) | (with_reducible first | refine Row.alloc ?_ _ | refine Row.drew ?_ | refine Row.step ?_ (by assumption) | refine Row.drewN ?_ _) | (with_reducible refine Row.set2' ?_ _ _; first | exact ⟨_, _, by assumption⟩ | exact ⟨_, _, Row.alloc (by assumption) _⟩) | (with_reducible refine Row.other ?_ (by first | omega | (simp; omega)) _)))
 have c_q_0_1 := R_q_1.cell 0 rfl
 have c_q_1_1 := R_q_1.cell 1 rfl
 have c_q_2_1 := R_q_1.cell 2 rfl
 have c_q_3_1 := R_q_1.cell 3 rfl
 have c_q_4_1 := R_q_1.cell 4 rfl
 have c_q_5_1 := R_q_1.cell 5 rfl
 have c_q_6_1 := R_q_1.cell 6 rfl
 have c_q_7_1 := R_q_1.cell 7 rfl
 have c_q_8_1 := R_q_1.cell 8 rfl
 have c_q_9_1 := R_q_1.cell 9 rfl
 have c_q_10_1 := R_q_1.cell 10 rfl
 have c_q_11_1 := R_q_1.cell 11 rfl
 have c_q_12_1 := R_q_1.cell 12 rfl
 have c_q_13_1 := R_q_1.cell 13 rfl
 have c_q_14_1 := R_q_1.cell 14 rfl
 have c_q_15_1 := R_q_1.cell 15 rfl
 have d_q_1 := ldV_row R_q_1 rfl
 have l_q_1 := R_q_1.lt
 have R_a_1 : Row w1 (w.heap.size + 1) [.int .i64 (k), .int .i64 (fr), .int .i64 (un), .int .i64 (ps)] := by (repeat' (first | (with_reducible assumption) | (with_reducible refine Row.new' _ _ _ (by first | rfl | (simp; done) | omega)) | (with_reducible first | refine Row.alloc ?_ _ | refine Row.drew ?_ | refine Row.step ?_ (by assumption) | refine Row.drewN ?_ _) | (with_reducible refine Row.set2' ?_ _ _; first | exact ⟨_, _, by assumption⟩ | exact ⟨_, _, Row.alloc (by assumption) _⟩) | (with_reducible refine Row.other ?_ (by first | omega | (simp; omega)) _)))
 have c_a_0_1 := R_a_1.cell 0 rfl
 have c_a_1_1 := R_a_1.cell 1 rfl
 have c_a_2_1 := R_a_1.cell 2 rfl
 have c_a_3_1 := R_a_1.cell 3 rfl
 have l_a_1 := R_a_1.lt
 have HB1 : Below w.heap.size w w1 := by (repeat' (first | (with_reducible first | exact Below.refl _ _ | assumption | exact Bw.out (by assumption) | refine bw_alloc ?_ _ | refine bw_step ?_ (by assumption) | refine Below.alloc ?_ ?_ _ | refine Below.drew ?_ | refine below_drewN ?_ _ | refine Below.setCell ?_ ?_ _ | refine below_step ?_ (by assumption) ?_ | exact Nat.le_refl _) | omega | (simp; omega) | (simp; done)))
 go_wp2_with fail
 refine (rwithin_p nt r.fr (r.un - 1) p1 HP1.out _).mono ?_
 rintro e w2 ⟨rfl, hb2⟩
 have R_q_2 : Row w2 (w.heap.size) [.int .i64 r.id, .int .i64 r.lv, .int .i64 r.kd, .int .i64 r.fr, .int .i64 r.un, .int .i64 r.ls, .int .i64 r.ms, .int .i64 r.ar, .int .i64 r.kn, .int .i64 r.kk, .int .i64 r.wh.op, .int .i64 r.wh.n, .slice r.wh.at' r.wh.ks.length r.wh.cap, .int .i64 r.pr.op, .int .i64 r.pr.n, .slice r.pr.at' r.pr.ks.length r.pr.cap] := by (repeat' (first | (with_reducible assumption) | (with_reducible refine Row.new' _ _ _ (by first | rfl | (simp; done) | omega)) | (with_reducible first | refine Row.alloc ?_ _ | refine Row.drew ?_ | refine Row.step ?_ (by assumption) | refine Row.drewN ?_ _) | (with_reducible refine Row.set2' ?_ _ _; first | exact ⟨_, _, by assumption⟩ | exact ⟨_, _, Row.alloc (by assumption) _⟩) | (with_reducible refine Row.other ?_ (by first | omega | (simp; omega)) _)))
 have c_q_0_2 := R_q_2.cell 0 rfl
 have c_q_1_2 := R_q_2.cell 1 rfl
 have c_q_2_2 := R_q_2.cell 2 rfl
 have c_q_3_2 := R_q_2.cell 3 rfl
 have c_q_4_2 := R_q_2.cell 4 rfl
 have c_q_5_2 := R_q_2.cell 5 rfl
 have c_q_6_2 := R_q_2.cell 6 rfl
 have c_q_7_2 := R_q_2.cell 7 rfl
 have c_q_8_2 := R_q_2.cell 8 rfl
 have c_q_9_2 := R_q_2.cell 9 rfl
 have c_q_10_2 := R_q_2.cell 10 rfl
 have c_q_11_2 := R_q_2.cell 11 rfl
 have c_q_12_2 := R_q_2.cell 12 rfl
 have c_q_13_2 := R_q_2.cell 13 rfl
 have c_q_14_2 := R_q_2.cell 14 rfl
 have c_q_15_2 := R_q_2.cell 15 rfl
 have d_q_2 := ldV_row R_q_2 rfl
 have l_q_2 := R_q_2.lt
 have R_a_2 : Row w2 (w.heap.size + 1) [.int .i64 (k), .int .i64 (fr), .int .i64 (un), .int .i64 (ps)] := by (repeat' (first | (with_reducible assumption) | (with_reducible refine Row.new' _ _ _ (by first | rfl | (simp; done) | omega)) | (with_reducible first | refine Row.alloc ?_ _ | refine Row.drew ?_ | refine Row.step ?_ (by assumption) | refine Row.drewN ?_ _) | (with_reducible refine Row.set2' ?_ _ _; first | exact ⟨_, _, by assumption⟩ | exact ⟨_, _, Row.alloc (by assumption) _⟩) | (with_reducible refine Row.other ?_ (by first | omega | (simp; omega)) _)))
 have c_a_0_2 := R_a_2.cell 0 rfl
 have c_a_1_2 := R_a_2.cell 1 rfl
 have c_a_2_2 := R_a_2.cell 2 rfl
 have c_a_3_2 := R_a_2.cell 3 rfl
 have l_a_2 := R_a_2.lt
 have HB2 : Below w.heap.size w w2 := by (repeat' (first | (with_reducible first | exact Below.refl _ _ | assumption | exact Bw.out (by assumption) | refine bw_alloc ?_ _ | refine bw_step ?_ (by assumption) | refine Below.alloc ?_ ?_ _ | refine Below.drew ?_ | refine below_drewN ?_ _ | refine Below.setCell ?_ ?_ _ | refine below_step ?_ (by assumption) ?_ | exact Nat.le_refl _) | omega | (simp; omega) | (simp; done)))
 clear R_q_1 c_q_0_1 c_q_1_1 c_q_2_1 c_q_3_1 c_q_4_1 c_q_5_1 c_q_6_1 c_q_7_1 c_q_8_1 c_q_9_1 c_q_10_1 c_q_11_1 c_q_12_1 c_q_13_1 c_q_14_1 c_q_15_1 d_q_1 R_a_1 c_a_0_1 c_a_1_1 c_a_2_1 c_a_3_1 hb1 HB1
 cases p1 with
 | false =>
  obtain ⟨rfl, rfl⟩ := HNO.out (by rw [HFIT.out]; simp)
  by_cases hk : r.kd = k
  ·
   have hk' : (r.kd != k) = false := by simpa using hk
   clear hk
   go_wp2_with fail
   go_returns
   refine ⟨rfl, ?_⟩
   (repeat' (first | (with_reducible first | exact Below.refl _ _ | assumption | exact Bw.out (by assumption) | refine bw_alloc ?_ _ | refine bw_step ?_ (by assumption) | refine Below.alloc ?_ ?_ _ | refine Below.drew ?_ | refine below_drewN ?_ _ | refine Below.setCell ?_ ?_ _ | refine below_step ?_ (by assumption) ?_ | exact Nat.le_refl _) | omega | (simp; omega) | (simp; done)))
  ·
   have hk' : (r.kd != k) = true := by simpa using hk
   clear hk
   go_wp2_with fail
   go_returns
   refine ⟨rfl, ?_⟩
   (repeat' (first | (with_reducible first | exact Below.refl _ _ | assumption | exact Bw.out (by assumption) | refine bw_alloc ?_ _ | refine bw_step ?_ (by assumption) | refine Below.alloc ?_ ?_ _ | refine Below.drew ?_ | refine below_drewN ?_ _ | refine Below.setCell ?_ ?_ _ | refine below_step ?_ (by assumption) ?_ | exact Nat.le_refl _) | omega | (simp; omega) | (simp; done)))
 | true =>
  go_wp2_with fail
  refine (rwithin_p (un - fr) r.ls r.ms p2 HP2.out _).mono ?_
  rintro e w3 ⟨rfl, hb3⟩
  have R_q_3 : Row w3 (w.heap.size) [.int .i64 r.id, .int .i64 r.lv, .int .i64 r.kd, .int .i64 r.fr, .int .i64 r.un, .int .i64 r.ls, .int .i64 r.ms, .int .i64 r.ar, .int .i64 r.kn, .int .i64 r.kk, .int .i64 r.wh.op, .int .i64 r.wh.n, .slice r.wh.at' r.wh.ks.length r.wh.cap, .int .i64 r.pr.op, .int .i64 r.pr.n, .slice r.pr.at' r.pr.ks.length r.pr.cap] := by (repeat' (first | (with_reducible assumption) | (with_reducible refine Row.new' _ _ _ (by first | rfl | (simp; done) | omega)) | (with_reducible first | refine Row.alloc ?_ _ | refine Row.drew ?_ | refine Row.step ?_ (by assumption) | refine Row.drewN ?_ _) | (with_reducible refine Row.set2' ?_ _ _; first | exact ⟨_, _, by assumption⟩ | exact ⟨_, _, Row.alloc (by assumption) _⟩) | (with_reducible refine Row.other ?_ (by first | omega | (simp; omega)) _)))
  have c_q_0_3 := R_q_3.cell 0 rfl
  have c_q_1_3 := R_q_3.cell 1 rfl
  have c_q_2_3 := R_q_3.cell 2 rfl
  have c_q_3_3 := R_q_3.cell 3 rfl
  have c_q_4_3 := R_q_3.cell 4 rfl
  have c_q_5_3 := R_q_3.cell 5 rfl
  have c_q_6_3 := R_q_3.cell 6 rfl
  have c_q_7_3 := R_q_3.cell 7 rfl
  have c_q_8_3 := R_q_3.cell 8 rfl
  have c_q_9_3 := R_q_3.cell 9 rfl
  have c_q_10_3 := R_q_3.cell 10 rfl
  have c_q_11_3 := R_q_3.cell 11 rfl
  have c_q_12_3 := R_q_3.cell 12 rfl
  have c_q_13_3 := R_q_3.cell 13 rfl
  have c_q_14_3 := R_q_3.cell 14 rfl
  have c_q_15_3 := R_q_3.cell 15 rfl
  have d_q_3 := ldV_row R_q_3 rfl
  have l_q_3 := R_q_3.lt
  have R_a_3 : Row w3 (w.heap.size + 1) [.int .i64 (k), .int .i64 (fr), .int .i64 (un), .int .i64 (ps)] := by (repeat' (first | (with_reducible assumption) | (with_reducible refine Row.new' _ _ _ (by first | rfl | (simp; done) | omega)) | (with_reducible first | refine Row.alloc ?_ _ | refine Row.drew ?_ | refine Row.step ?_ (by assumption) | refine Row.drewN ?_ _) | (with_reducible refine Row.set2' ?_ _ _; first | exact ⟨_, _, by assumption⟩ | exact ⟨_, _, Row.alloc (by assumption) _⟩) | (with_reducible refine Row.other ?_ (by first | omega | (simp; omega)) _)))
  have c_a_0_3 := R_a_3.cell 0 rfl
  have c_a_1_3 := R_a_3.cell 1 rfl
  have c_a_2_3 := R_a_3.cell 2 rfl
  have c_a_3_3 := R_a_3.cell 3 rfl
  have l_a_3 := R_a_3.lt
  have HB3 : Below w.heap.size w w3 := by (repeat' (first | (with_reducible first | exact Below.refl _ _ | assumption | exact Bw.out (by assumption) | refine bw_alloc ?_ _ | refine bw_step ?_ (by assumption) | refine Below.alloc ?_ ?_ _ | refine Below.drew ?_ | refine below_drewN ?_ _ | refine Below.setCell ?_ ?_ _ | refine below_step ?_ (by assumption) ?_ | exact Nat.le_refl _) | omega | (simp; omega) | (simp; done)))
  clear R_q_2 c_q_0_2 c_q_1_2 c_q_2_2 c_q_3_2 c_q_4_2 c_q_5_2 c_q_6_2 c_q_7_2 c_q_8_2 c_q_9_2 c_q_10_2 c_q_11_2 c_q_12_2 c_q_13_2 c_q_14_2 c_q_15_2 d_q_2 R_a_2 c_a_0_2 c_a_1_2 c_a_2_2 c_a_3_2 hb2 HB2
  cases p2 with
  | false =>
   obtain ⟨rfl, rfl⟩ := HNO.out (by rw [HFIT.out]; simp)
   by_cases hk : r.kd = k
   ·
    have hk' : (r.kd != k) = false := by simpa using hk
    clear hk
    go_wp2_with fail
    go_returns
    refine ⟨rfl, ?_⟩
    (repeat' (first | (with_reducible first | exact Below.refl _ _ | assumption | exact Bw.out (by assumption) | refine bw_alloc ?_ _ | refine bw_step ?_ (by assumption) | refine Below.alloc ?_ ?_ _ | refine Below.drew ?_ | refine below_drewN ?_ _ | refine Below.setCell ?_ ?_ _ | refine below_step ?_ (by assumption) ?_ | exact Nat.le_refl _) | omega | (simp; omega) | (simp; done)))
   ·
    have hk' : (r.kd != k) = true := by simpa using hk
    clear hk
    go_wp2_with fail
    go_returns
    refine ⟨rfl, ?_⟩
    (repeat' (first | (with_reducible first | exact Below.refl _ _ | assumption | exact Bw.out (by assumption) | refine bw_alloc ?_ _ | refine bw_step ?_ (by assumption) | refine Below.alloc ?_ ?_ _ | refine Below.drew ?_ | refine below_drewN ?_ _ | refine Below.setCell ?_ ?_ _ | refine below_step ?_ (by assumption) ?_ | exact Nat.le_refl _) | omega | (simp; omega) | (simp; done)))
  | true =>
   by_cases hk : r.kd = k
   ·
    have hk' : (r.kd != k) = false := by simpa using hk
    cases bb with
    | false =>
     obtain ⟨rfl, rfl⟩ := HNO.out (by rw [HFIT.out]; simp)
     clear hk
     go_wp2_with fail
     go_returns
     refine ⟨rfl, ?_⟩
     (repeat' (first | (with_reducible first | exact Below.refl _ _ | assumption | exact Bw.out (by assumption) | refine bw_alloc ?_ _ | refine bw_step ?_ (by assumption) | refine Below.alloc ?_ ?_ _ | refine Below.drew ?_ | refine below_drewN ?_ _ | refine Below.setCell ?_ ?_ _ | refine below_step ?_ (by assumption) ?_ | exact Nat.le_refl _) | omega | (simp; omega) | (simp; done)))
    | true =>
     obtain ⟨hB, hE⟩ := HYES.out (by rw [HFIT.out, hk]; simp)
     subst hB hE
     clear hk
     go_upto_region 5 with fail
     have HS : Hid (∀ W, Below w3.heap.size w3 W → W.cell? ⟨w.heap.size, 10, none⟩ = some (.int .i64 r.wh.op) ∧ W.cell? ⟨w.heap.size, 11, none⟩ = some (.int .i64 r.wh.n) ∧ W.cell? ⟨w.heap.size, 12, none⟩ = some (.slice r.wh.at' r.wh.ks.length r.wh.cap) ∧ W.cell? ⟨w.heap.size + 1, 0, none⟩ = some (.int .i64 k) ∧ W.cell? ⟨w.heap.size + 1, 1, none⟩ = some (.int .i64 fr) ∧ W.cell? ⟨w.heap.size + 1, 2, none⟩ = some (.int .i64 un) ∧ W.cell? ⟨w.heap.size + 1, 3, none⟩ = some (.int .i64 ps)) := fun W h =>
      ⟨(R_q_3.step h).cell 10 rfl, (R_q_3.step h).cell 11 rfl, (R_q_3.step h).cell 12 rfl, (R_a_3.step h).cell 0 rfl, (R_a_3.step h).cell 1 rfl, (R_a_3.step h).cell 2 rfl, (R_a_3.step h).cell 3 rfl⟩
     go_cut [11, 12] from 57 to 65 (fun v u wx => ∃ A : Nat, v = .pointer (some ⟨A, 0, none⟩) ∧ u = .int .i64 E ∧ Row wx A [.int .i64 N, .int .i64 D] ∧ Below w3.heap.size w3 wx)
     case first =>
      refine AnyJ.beginP (fun W => W.cell? ⟨w.heap.size, 10, none⟩ = some (.int .i64 r.wh.op) ∧ W.cell? ⟨w.heap.size, 11, none⟩ = some (.int .i64 r.wh.n) ∧ W.cell? ⟨w.heap.size, 12, none⟩ = some (.slice r.wh.at' r.wh.ks.length r.wh.cap) ∧ W.cell? ⟨w.heap.size + 1, 0, none⟩ = some (.int .i64 k) ∧ W.cell? ⟨w.heap.size + 1, 1, none⟩ = some (.int .i64 fr) ∧ W.cell? ⟨w.heap.size + 1, 2, none⟩ = some (.int .i64 un) ∧ W.cell? ⟨w.heap.size + 1, 3, none⟩ = some (.int .i64 ps)) (fun j => decide (j ≤ 10)) (by kernel_rfl) (HS.out _ (Below.refl _ _).drew) (fun hS => ?_)
      obtain ⟨w4, hw4⟩ : ∃ X, World.drew w3 = X := ⟨_, rfl⟩
      have hbw4 : Below w3.heap.size w3 w4 := by rw [← hw4]; exact (Below.refl _ _).drew
      rw [hw4] at hS ⊢
      clear hw4
      refine AnyJ.takeD (i := 0) (d := some 58) (v := ?_) rfl (by kernel_rfl) (by kernel_rfl) (by kernel_rfl) (by kernel_rfl) (by kernel_rfl) (fun _ _ _ h => h) (Or.inl ⟨by kernel_rfl, ?_⟩) hS ?_
      rotate_left
      ·
       intro w' hS
       obtain ⟨sE0, sE1, sE2, sA0, sA1, sA2, sA3⟩ := hS
       go_simp
       try with_reducible rfl
      refine AnyJ.takeD (i := 1) (d := some 59) (v := ?_) rfl (by kernel_rfl) (by kernel_rfl) (by kernel_rfl) (by kernel_rfl) (by kernel_rfl) (fun _ _ _ h => h) (Or.inl ⟨by kernel_rfl, ?_⟩) hS ?_
      rotate_left
      ·
       intro w' hS
       obtain ⟨sE0, sE1, sE2, sA0, sA1, sA2, sA3⟩ := hS
       go_simp
       try with_reducible rfl
      refine AnyJ.takeD (i := 2) (d := some 60) (v := ?_) rfl (by kernel_rfl) (by kernel_rfl) (by kernel_rfl) (by kernel_rfl) (by kernel_rfl) (fun _ _ _ h => h) (Or.inl ⟨by kernel_rfl, ?_⟩) hS ?_
      rotate_left
      ·
       intro w' hS
       obtain ⟨sE0, sE1, sE2, sA0, sA1, sA2, sA3⟩ := hS
       go_simp
       try with_reducible rfl
      refine AnyJ.takeD (i := 3) (d := some 61) (v := ?_) rfl (by kernel_rfl) (by kernel_rfl) (by kernel_rfl) (by kernel_rfl) (by kernel_rfl) (fun _ _ _ h => h) (Or.inl ⟨by kernel_rfl, ?_⟩) hS ?_
      rotate_left
      ·
       intro w' hS
       obtain ⟨sE0, sE1, sE2, sA0, sA1, sA2, sA3⟩ := hS
       go_simp
       try with_reducible rfl
      clear hS
      refine AnyJ.two (i := 4) (j := 9) (by kernel_rfl) rfl rfl (fun Kz hKz => ?_) (fun Kz hKz => ?_)
      ·
       go_simp
       refine (HAV.out w4).mono ?_
       rintro e w5 ⟨rfl, hsw5⟩
       have hbw5 : Below w3.heap.size w3 w5 := hbw4.trans (hsw5.mono hbw4.size)
       refine hKz _ _ (fun _ => HS.out _ hbw5) ?_
       clear hKz Kz
       refine AnyJ.two (i := 5) (j := 9) (by kernel_rfl) rfl rfl (fun Kz hKz => ?_) (fun Kz hKz => ?_)
       ·
        go_simp
        refine (value_p r.wh (un - fr) ps (nt - fr) (dayI nt) w5 (HIN.out.1.step (HB3.trans (hbw5.mono HB3.size))) HWV.out N D E HEV.out).mono ?_
        rintro e w6 ⟨rfl, hsw6⟩
        have hbw6 : Below w3.heap.size w3 w6 := hbw5.trans (hsw6.mono hbw5.size)
        have hS := HS.out _ hbw6
        refine hKz _ _ (fun _ => hS) ?_
        clear hKz Kz
        refine AnyJ.takeD (i := 6) (d := some 57) (v := ?_) rfl (by kernel_rfl) (by kernel_rfl) (by kernel_rfl) (by kernel_rfl) (by kernel_rfl) (fun _ _ _ h => h) (Or.inl ⟨by kernel_rfl, ?_⟩) hS ?_
        rotate_left
        ·
         intro w' hS
         obtain ⟨sE0, sE1, sE2, sA0, sA1, sA2, sA3⟩ := hS
         go_simp
         try with_reducible rfl
        refine AnyJ.takeD (i := 7) (d := some 64) (v := ?_) rfl (by kernel_rfl) (by kernel_rfl) (by kernel_rfl) (by kernel_rfl) (by kernel_rfl) (fun _ _ _ h => h) (Or.inl ⟨by kernel_rfl, ?_⟩) hS ?_
        rotate_left
        ·
         intro w' hS
         obtain ⟨sE0, sE1, sE2, sA0, sA1, sA2, sA3⟩ := hS
         go_simp
         try with_reducible rfl
        refine AnyJ.takeD (i := 8) (d := some 65) (v := ?_) rfl (by kernel_rfl) (by kernel_rfl) (by kernel_rfl) (by kernel_rfl) (by kernel_rfl) (fun _ _ _ h => h) (Or.inl ⟨by kernel_rfl, ?_⟩) hS ?_
        rotate_left
        ·
         intro w' hS
         obtain ⟨sE0, sE1, sE2, sA0, sA1, sA2, sA3⟩ := hS
         go_simp
         try with_reducible rfl
        clear hS
        refine AnyJ.one (i := 9) (by kernel_rfl) rfl (fun Kz hKz => ?_)
        go_simp
        obtain ⟨w7, hww7⟩ : ∃ X, World.alloc w6 (.cells #[.int .i64 0, .int .i64 0] 28) = X := ⟨_, rfl⟩
        rw [hww7]
        have hsw7 : Below w6.heap.size w6 w7 := by rw [← hww7]; exact (Below.refl _ _).alloc (Nat.le_refl _) _
        have hbw7 : Below w3.heap.size w3 w7 := hbw6.trans (hsw7.mono hbw6.size)
        have hA : w3.heap.size ≤ w6.heap.size := hbw6.size
        have RA : Row w7 w6.heap.size [.int .i64 0, .int .i64 0] := by rw [← hww7]; exact Row.new' _ _ _ rfl
        clear hww7
        refine hKz _ _ (fun _ => HS.out _ hbw7) ?_
        clear hKz Kz
        have a0 := RA.cell 0 rfl
        have a1 := RA.cell 1 rfl
        have f0 := RA.frozen 0
        have f1 := RA.frozen 1
        have fl := RA.lt
        refine AnyJ.one (i := 10) (by kernel_rfl) rfl (fun Kz hKz => ?_)
        go_simp
        refine hKz _ _ (fun _ => HS.out _ ((hbw7.setCell (hp := hA) (p := ⟨w6.heap.size, 0, none⟩) _).setCell (hp := hA) (p := ⟨w6.heap.size, 1, none⟩) _)) ?_
        clear hKz Kz
        refine AnyJ.one (i := 11) (by kernel_rfl) rfl (fun Kz hKz => ?_)
        go_simp
        refine hKz _ _ (fun h => by cases h) ?_
        clear hKz Kz
        refine AnyJ.done (by kernel_rfl) ?_ _
        try simp only [Act.put, List.setIfInBounds_toArray, List.set_cons_zero, List.set_cons_succ]
        clear a0 a1 f0 f1 fl
        go_wp2_with fail
        go_meet
        exact ⟨_, rfl, rfl, RA.set2 _ _, (hbw7.setCell (hp := hA) (p := ⟨w6.heap.size, 0, none⟩) _).setCell (hp := hA) (p := ⟨w6.heap.size, 1, none⟩) _⟩
       ·
        go_simp
        obtain ⟨w6, hww6⟩ : ∃ X, World.alloc w5 (.cells #[.int .i64 0, .int .i64 0] 28) = X := ⟨_, rfl⟩
        rw [hww6]
        have hsw6 : Below w5.heap.size w5 w6 := by rw [← hww6]; exact (Below.refl _ _).alloc (Nat.le_refl _) _
        have hbw6 : Below w3.heap.size w3 w6 := hbw5.trans (hsw6.mono hbw5.size)
        have hA : w3.heap.size ≤ w5.heap.size := hbw5.size
        have RA : Row w6 w5.heap.size [.int .i64 0, .int .i64 0] := by rw [← hww6]; exact Row.new' _ _ _ rfl
        clear hww6
        refine hKz _ _ (fun _ => HS.out _ hbw6) ?_
        clear hKz Kz
        refine AnyJ.one (i := 5) (by kernel_rfl) rfl (fun Kz hKz => ?_)
        go_simp
        refine (value_p r.wh (un - fr) ps (nt - fr) (dayI nt) w6 (HIN.out.1.step (HB3.trans (hbw6.mono HB3.size))) HWV.out N D E HEV.out).mono ?_
        rintro e w7 ⟨rfl, hsw7⟩
        have hbw7 : Below w3.heap.size w3 w7 := hbw6.trans (hsw7.mono hbw6.size)
        have hS := HS.out _ hbw7
        refine hKz _ _ (fun _ => hS) ?_
        clear hKz Kz
        refine AnyJ.takeD (i := 6) (d := some 57) (v := ?_) rfl (by kernel_rfl) (by kernel_rfl) (by kernel_rfl) (by kernel_rfl) (by kernel_rfl) (fun _ _ _ h => h) (Or.inl ⟨by kernel_rfl, ?_⟩) hS ?_
        rotate_left
        ·
         intro w' hS
         obtain ⟨sE0, sE1, sE2, sA0, sA1, sA2, sA3⟩ := hS
         go_simp
         try with_reducible rfl
        refine AnyJ.takeD (i := 7) (d := some 64) (v := ?_) rfl (by kernel_rfl) (by kernel_rfl) (by kernel_rfl) (by kernel_rfl) (by kernel_rfl) (fun _ _ _ h => h) (Or.inl ⟨by kernel_rfl, ?_⟩) hS ?_
        rotate_left
        ·
         intro w' hS
         obtain ⟨sE0, sE1, sE2, sA0, sA1, sA2, sA3⟩ := hS
         go_simp
         try with_reducible rfl
        refine AnyJ.takeD (i := 8) (d := some 65) (v := ?_) rfl (by kernel_rfl) (by kernel_rfl) (by kernel_rfl) (by kernel_rfl) (by kernel_rfl) (fun _ _ _ h => h) (Or.inl ⟨by kernel_rfl, ?_⟩) hS ?_
        rotate_left
        ·
         intro w' hS
         obtain ⟨sE0, sE1, sE2, sA0, sA1, sA2, sA3⟩ := hS
         go_simp
         try with_reducible rfl
        clear hS
        replace RA := RA.step hsw7
        have a0 := RA.cell 0 rfl
        have a1 := RA.cell 1 rfl
        have f0 := RA.frozen 0
        have f1 := RA.frozen 1
        have fl := RA.lt
        refine AnyJ.one (i := 10) (by kernel_rfl) rfl (fun Kz hKz => ?_)
        go_simp
        refine hKz _ _ (fun _ => HS.out _ ((hbw7.setCell (hp := hA) (p := ⟨w5.heap.size, 0, none⟩) _).setCell (hp := hA) (p := ⟨w5.heap.size, 1, none⟩) _)) ?_
        clear hKz Kz
        refine AnyJ.one (i := 11) (by kernel_rfl) rfl (fun Kz hKz => ?_)
        go_simp
        refine hKz _ _ (fun h => by cases h) ?_
        clear hKz Kz
        refine AnyJ.done (by kernel_rfl) ?_ _
        try simp only [Act.put, List.setIfInBounds_toArray, List.set_cons_zero, List.set_cons_succ]
        clear a0 a1 f0 f1 fl
        go_wp2_with fail
        go_meet
        exact ⟨_, rfl, rfl, RA.set2 _ _, (hbw7.setCell (hp := hA) (p := ⟨w5.heap.size, 0, none⟩) _).setCell (hp := hA) (p := ⟨w5.heap.size, 1, none⟩) _⟩
      ·
       go_simp
       obtain ⟨w5, hww5⟩ : ∃ X, World.alloc w4 (.cells #[.int .i64 0, .int .i64 0] 28) = X := ⟨_, rfl⟩
       rw [hww5]
       have hsw5 : Below w4.heap.size w4 w5 := by rw [← hww5]; exact (Below.refl _ _).alloc (Nat.le_refl _) _
       have hbw5 : Below w3.heap.size w3 w5 := hbw4.trans (hsw5.mono hbw4.size)
       have hA : w3.heap.size ≤ w4.heap.size := hbw4.size
       have RA : Row w5 w4.heap.size [.int .i64 0, .int .i64 0] := by rw [← hww5]; exact Row.new' _ _ _ rfl
       clear hww5
       refine hKz _ _ (fun _ => HS.out _ hbw5) ?_
       clear hKz Kz
       refine AnyJ.one (i := 4) (by kernel_rfl) rfl (fun Kz hKz => ?_)
       go_simp
       refine (HAV.out w5).mono ?_
       rintro e w6 ⟨rfl, hsw6⟩
       have hbw6 : Below w3.heap.size w3 w6 := hbw5.trans (hsw6.mono hbw5.size)
       refine hKz _ _ (fun _ => HS.out _ hbw6) ?_
       clear hKz Kz
       refine AnyJ.one (i := 5) (by kernel_rfl) rfl (fun Kz hKz => ?_)
       go_simp
       refine (value_p r.wh (un - fr) ps (nt - fr) (dayI nt) w6 (HIN.out.1.step (HB3.trans (hbw6.mono HB3.size))) HWV.out N D E HEV.out).mono ?_
       rintro e w7 ⟨rfl, hsw7⟩
       have hbw7 : Below w3.heap.size w3 w7 := hbw6.trans (hsw7.mono hbw6.size)
       have hS := HS.out _ hbw7
       refine hKz _ _ (fun _ => hS) ?_
       clear hKz Kz
       refine AnyJ.takeD (i := 6) (d := some 57) (v := ?_) rfl (by kernel_rfl) (by kernel_rfl) (by kernel_rfl) (by kernel_rfl) (by kernel_rfl) (fun _ _ _ h => h) (Or.inl ⟨by kernel_rfl, ?_⟩) hS ?_
       rotate_left
       ·
        intro w' hS
        obtain ⟨sE0, sE1, sE2, sA0, sA1, sA2, sA3⟩ := hS
        go_simp
        try with_reducible rfl
       refine AnyJ.takeD (i := 7) (d := some 64) (v := ?_) rfl (by kernel_rfl) (by kernel_rfl) (by kernel_rfl) (by kernel_rfl) (by kernel_rfl) (fun _ _ _ h => h) (Or.inl ⟨by kernel_rfl, ?_⟩) hS ?_
       rotate_left
       ·
        intro w' hS
        obtain ⟨sE0, sE1, sE2, sA0, sA1, sA2, sA3⟩ := hS
        go_simp
        try with_reducible rfl
       refine AnyJ.takeD (i := 8) (d := some 65) (v := ?_) rfl (by kernel_rfl) (by kernel_rfl) (by kernel_rfl) (by kernel_rfl) (by kernel_rfl) (fun _ _ _ h => h) (Or.inl ⟨by kernel_rfl, ?_⟩) hS ?_
       rotate_left
       ·
        intro w' hS
        obtain ⟨sE0, sE1, sE2, sA0, sA1, sA2, sA3⟩ := hS
        go_simp
        try with_reducible rfl
       clear hS
       replace RA := (RA.step hsw6).step hsw7
       have a0 := RA.cell 0 rfl
       have a1 := RA.cell 1 rfl
       have f0 := RA.frozen 0
       have f1 := RA.frozen 1
       have fl := RA.lt
       refine AnyJ.one (i := 10) (by kernel_rfl) rfl (fun Kz hKz => ?_)
       go_simp
       refine hKz _ _ (fun _ => HS.out _ ((hbw7.setCell (hp := hA) (p := ⟨w4.heap.size, 0, none⟩) _).setCell (hp := hA) (p := ⟨w4.heap.size, 1, none⟩) _)) ?_
       clear hKz Kz
       refine AnyJ.one (i := 11) (by kernel_rfl) rfl (fun Kz hKz => ?_)
       go_simp
       refine hKz _ _ (fun h => by cases h) ?_
       clear hKz Kz
       refine AnyJ.done (by kernel_rfl) ?_ _
       try simp only [Act.put, List.setIfInBounds_toArray, List.set_cons_zero, List.set_cons_succ]
       clear a0 a1 f0 f1 fl
       go_wp2_with fail
       go_meet
       exact ⟨_, rfl, rfl, RA.set2 _ _, (hbw7.setCell (hp := hA) (p := ⟨w4.heap.size, 0, none⟩) _).setCell (hp := hA) (p := ⟨w4.heap.size, 1, none⟩) _⟩
     case' rest =>
      obtain ⟨A, rfl, rfl, RA, hb4⟩ := hcut
      obtain ⟨w4, hw4⟩ : ∃ wd, wd = wc := ⟨_, rfl⟩
      subst hw4
      have R_q_4 : Row w4 (w.heap.size) [.int .i64 r.id, .int .i64 r.lv, .int .i64 r.kd, .int .i64 r.fr, .int .i64 r.un, .int .i64 r.ls, .int .i64 r.ms, .int .i64 r.ar, .int .i64 r.kn, .int .i64 r.kk, .int .i64 r.wh.op, .int .i64 r.wh.n, .slice r.wh.at' r.wh.ks.length r.wh.cap, .int .i64 r.pr.op, .int .i64 r.pr.n, .slice r.pr.at' r.pr.ks.length r.pr.cap] := by (repeat' (first | (with_reducible assumption) | (with_reducible refine Row.new' _ _ _ (by first | rfl | (simp; done) | omega)) | (with_reducible first | refine Row.alloc ?_ _ | refine Row.drew ?_ | refine Row.step ?_ (by assumption) | refine Row.drewN ?_ _) | (with_reducible refine Row.set2' ?_ _ _; first | exact ⟨_, _, by assumption⟩ | exact ⟨_, _, Row.alloc (by assumption) _⟩) | (with_reducible refine Row.other ?_ (by first | omega | (simp; omega)) _)))
      have c_q_0_4 := R_q_4.cell 0 rfl
      have c_q_1_4 := R_q_4.cell 1 rfl
      have c_q_2_4 := R_q_4.cell 2 rfl
      have c_q_3_4 := R_q_4.cell 3 rfl
      have c_q_4_4 := R_q_4.cell 4 rfl
      have c_q_5_4 := R_q_4.cell 5 rfl
      have c_q_6_4 := R_q_4.cell 6 rfl
      have c_q_7_4 := R_q_4.cell 7 rfl
      have c_q_8_4 := R_q_4.cell 8 rfl
      have c_q_9_4 := R_q_4.cell 9 rfl
      have c_q_10_4 := R_q_4.cell 10 rfl
      have c_q_11_4 := R_q_4.cell 11 rfl
      have c_q_12_4 := R_q_4.cell 12 rfl
      have c_q_13_4 := R_q_4.cell 13 rfl
      have c_q_14_4 := R_q_4.cell 14 rfl
      have c_q_15_4 := R_q_4.cell 15 rfl
      have d_q_4 := ldV_row R_q_4 rfl
      have l_q_4 := R_q_4.lt
      have R_a_4 : Row w4 (w.heap.size + 1) [.int .i64 (k), .int .i64 (fr), .int .i64 (un), .int .i64 (ps)] := by (repeat' (first | (with_reducible assumption) | (with_reducible refine Row.new' _ _ _ (by first | rfl | (simp; done) | omega)) | (with_reducible first | refine Row.alloc ?_ _ | refine Row.drew ?_ | refine Row.step ?_ (by assumption) | refine Row.drewN ?_ _) | (with_reducible refine Row.set2' ?_ _ _; first | exact ⟨_, _, by assumption⟩ | exact ⟨_, _, Row.alloc (by assumption) _⟩) | (with_reducible refine Row.other ?_ (by first | omega | (simp; omega)) _)))
      have c_a_0_4 := R_a_4.cell 0 rfl
      have c_a_1_4 := R_a_4.cell 1 rfl
      have c_a_2_4 := R_a_4.cell 2 rfl
      have c_a_3_4 := R_a_4.cell 3 rfl
      have l_a_4 := R_a_4.lt
      have HB4 : Below w.heap.size w w4 := by (repeat' (first | (with_reducible first | exact Below.refl _ _ | assumption | exact Bw.out (by assumption) | refine bw_alloc ?_ _ | refine bw_step ?_ (by assumption) | refine Below.alloc ?_ ?_ _ | refine Below.drew ?_ | refine below_drewN ?_ _ | refine Below.setCell ?_ ?_ _ | refine below_step ?_ (by assumption) ?_ | exact Nat.le_refl _) | omega | (simp; omega) | (simp; done)))
      clear R_q_3 c_q_0_3 c_q_1_3 c_q_2_3 c_q_3_3 c_q_4_3 c_q_5_3 c_q_6_3 c_q_7_3 c_q_8_3 c_q_9_3 c_q_10_3 c_q_11_3 c_q_12_3 c_q_13_3 c_q_14_3 c_q_15_3 d_q_3 R_a_3 c_a_0_3 c_a_1_3 c_a_2_3 c_a_3_3 hb3 HB3
      have ca0 := RA.cell 0 rfl
      have cal := RA.lt
      go_wp2_with fail
      go_returns
      refine ⟨rfl, ?_⟩
      (repeat' (first | (with_reducible first | exact Below.refl _ _ | assumption | exact Bw.out (by assumption) | refine bw_alloc ?_ _ | refine bw_step ?_ (by assumption) | refine Below.alloc ?_ ?_ _ | refine Below.drew ?_ | refine below_drewN ?_ _ | refine Below.setCell ?_ ?_ _ | refine below_step ?_ (by assumption) ?_ | exact Nat.le_refl _) | omega | (simp; omega) | (simp; done)))
   ·
    have hk' : (r.kd != k) = true := by simpa using hk
    obtain ⟨rfl, rfl⟩ := HNO.out (by rw [HFIT.out]; simp [hk])
    clear hk
    go_wp2_with fail
    go_returns
    refine ⟨rfl, ?_⟩
    (repeat' (first | (with_reducible first | exact Below.refl _ _ | assumption | exact Bw.out (by assumption) | refine bw_alloc ?_ _ | refine bw_step ?_ (by assumption) | refine Below.alloc ?_ ?_ _ | refine Below.drew ?_ | refine below_drewN ?_ _ | refine Below.setCell ?_ ?_ _ | refine below_step ?_ (by assumption) ?_ | exact Nat.le_refl _) | omega | (simp; omega) | (simp; done)))
theorem applies_p (r : RateV) (k fr un ps nt : Int) (w : World) (h : r.In w) (hf : formB r = true) (ha : askB ⟨k, fr, un, ps⟩ = true) (hn : fr ≤ nt ∧ nt < un) (B : Bool) (E : Int) (hR : appl r ⟨k, fr, un, ps⟩ nt = (B, E)) :
  Calls Try.prog 54 #[.agg #[.int .i64 r.id, .int .i64 r.lv, .int .i64 r.kd, .int .i64 r.fr, .int .i64 r.un, .int .i64 r.ls, .int .i64 r.ms, .int .i64 r.ar, .int .i64 r.kn, .int .i64 r.kk, .int .i64 r.wh.op, .int .i64 r.wh.n, .slice r.wh.at' r.wh.ks.length r.wh.cap, .int .i64 r.pr.op, .int .i64 r.pr.n, .slice r.pr.at' r.pr.ks.length r.pr.cap], .agg #[.int .i64 k, .int .i64 fr, .int .i64 un, .int .i64 ps], .int .i64 nt] w fun e w' => e = .returned (.tuple #[.bool B, .int .i64 E]) ∧ Below w.heap.size w w' :=
 applies_any r k fr un ps nt w h hf ha hn B E hR
end Go.Proofs.Ytcmodmchnokmgaa
