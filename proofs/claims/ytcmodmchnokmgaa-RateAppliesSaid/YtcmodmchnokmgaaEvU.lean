/-
  RateApplies: whether a rate applies does not depend on its ID, Level, Price and Keep, as long as it can be used; one for another kind, season, length or weekday does not apply, whatever its When says.
  No condition: for every input (what is not few is not looked at).
-/
import Derived.Test.YtcmodmchnokmgaaEvT
import Derived.Test.YtcmodmchnokmgaaMG
namespace Go.Proofs.Ytcmodmchnokmgaa
set_option linter.unusedSimpArgs false
set_option linter.unusedVariables false
open Go.ChangeShapes Go.WideShapes Go.ChangeAt Go.RowKit
attribute [local go_sem ↓] ld_eq st_eq
attribute [local go_sem] ldR_run ldV_drew ldV_alloc ldV_at16 stR_run sz16_rate stB_drew stB_at16 stW_at16 stB_set ldV_set stW_cell stW_frozen ldV_stW stB_stW

/-- The rate with another ID, level, price, keep. -/
abbrev mixR (r o : RateV) : RateV := ⟨o.id, o.lv, r.kd, r.fr, r.un, r.ls, r.ms, r.ar, o.kn, o.kk, r.wh, o.pr⟩
theorem rateE_ok {r : RateV} (h : rateB r = true) : rateE r = 0 := by
  unfold rateB at h
  simp only [Bool.and_eq_true] at h
  unfold rateE; rw [if_pos h.1, if_pos h.2]
theorem mix_appl (r o : RateV) (a : AskV) (nt : Int) : appl (mixR r o) a nt = appl r a nt := by unfold appl fitsR; rfl
theorem appl_err {r : RateV} {a : AskV} {nt : Int} (h : (appl r a nt).2 ≠ 0) : (appl r a nt).1 = false := by
  unfold appl at h ⊢
  split at h
  · rename_i hf
    rw [if_pos hf]
    have := ((r.wh.good (a.vars nt)).2.1 h).1
    simp [this]
  · simp at h
set_option maxRecDepth 100000 in
set_option maxHeartbeats 6400000 in
theorem applies_walk0 (r : RateV) (k fr un ps nt : Int) (o : RateV) (_ : r.Wf) (wa : I64 k ∧ I64 fr ∧ I64 un ∧ I64 ps) (wn : (Lit.int .i64 nt).wf = true) (_ : o.Wf) (w : World) (hr : r.In w) (ho : o.In w) :
    Calls Try.prog 8 #[.agg #[.int .i64 r.id, .int .i64 r.lv, .int .i64 r.kd, .int .i64 r.fr, .int .i64 r.un, .int .i64 r.ls, .int .i64 r.ms, .int .i64 r.ar, .int .i64 r.kn, .int .i64 r.kk, .int .i64 r.wh.op, .int .i64 r.wh.n, .slice r.wh.at' r.wh.ks.length r.wh.cap, .int .i64 r.pr.op, .int .i64 r.pr.n, .slice r.pr.at' r.pr.ks.length r.pr.cap], .agg #[.int .i64 k, .int .i64 fr, .int .i64 un, .int .i64 ps], .int .i64 nt, .agg #[.int .i64 o.id, .int .i64 o.lv, .int .i64 o.kd, .int .i64 o.fr, .int .i64 o.un, .int .i64 o.ls, .int .i64 o.ms, .int .i64 o.ar, .int .i64 o.kn, .int .i64 o.kk, .int .i64 o.wh.op, .int .i64 o.wh.n, .slice o.wh.at' o.wh.ks.length o.wh.cap, .int .i64 o.pr.op, .int .i64 o.pr.n, .slice o.pr.at' o.pr.ks.length o.pr.cap]] w fun e w' => e = .returned (.bool true) ∧ Below w.heap.size w w' := by
  have HIN := Lib.hid hr
  have HIO := Lib.hid ho
  clear hr ho wa wn
  obtain ⟨p, hp⟩ : ∃ p, fewR [r, o] = p := ⟨_, rfl⟩
  have HP := Lib.hid hp
  obtain ⟨p1, hp1⟩ : ∃ p, rateB r = p := ⟨_, rfl⟩
  obtain ⟨e1, he1⟩ : ∃ p, rateE r = p := ⟨_, rfl⟩
  obtain ⟨p2, hp2⟩ : ∃ p, rateB (mixR r o) = p := ⟨_, rfl⟩
  obtain ⟨e2, he2⟩ : ∃ p, rateE (mixR r o) = p := ⟨_, rfl⟩
  have HP1 : Hid (rateB r = p1 ∧ rateE r = e1) := ⟨hp1, he1⟩
  have HP2 : Hid (rateB (mixR r o) = p2 ∧ rateE (mixR r o) = e2) := ⟨hp2, he2⟩
  clear hp hp1 he1 hp2 he2
  go_enter Try.func8, Try.ntmps8
  go_wp2_with fail
  refine (head_any _).mono ?_
  rintro e w1 ⟨rfl, hb1⟩
  have R_q_1 : Row w1 (w.heap.size) [.int .i64 r.id, .int .i64 r.lv, .int .i64 r.kd, .int .i64 r.fr, .int .i64 r.un, .int .i64 r.ls, .int .i64 r.ms, .int .i64 r.ar, .int .i64 r.kn, .int .i64 r.kk, .int .i64 r.wh.op, .int .i64 r.wh.n, .slice r.wh.at' r.wh.ks.length r.wh.cap, .int .i64 r.pr.op, .int .i64 r.pr.n, .slice r.pr.at' r.pr.ks.length r.pr.cap] := by (repeat' (first | (with_reducible assumption) | (with_reducible refine Row.new' _ _ _ (by first | rfl | (simp; done) | omega)) | (with_reducible refine Row.alloc ?_ _) | (with_reducible refine Row.drew ?_) | (with_reducible refine Row.drewN ?_ _) | (with_reducible refine Row.step ?_ (by with_reducible assumption)) | (with_reducible refine Row.set2' ?_ _ _; first | exact ⟨_, _, by with_reducible assumption⟩ | exact ⟨_, _, Row.alloc (by with_reducible assumption) _⟩ | exact ⟨_, _, Row.alloc (Row.alloc (by with_reducible assumption) _) _⟩) | (with_reducible refine Row.other ?_ (by first | omega | (simp; done) | (simp; omega)) _)))
  have c_q_0_1 := R_q_1.cell 0 rfl
  have c_q_1_1 := R_q_1.cell 1 rfl
  have c_q_2_1 := R_q_1.cell 2 rfl
  have c_q_3_1 := R_q_1.cell 3 rfl
  have c_q_4_1 := R_q_1.cell 4 rfl
  have c_q_5_1 := R_q_1.cell 5 rfl
  have c_q_6_1 := R_q_1.cell 6 rfl
  have c_q_7_1 := R_q_1.cell 7 rfl
  have c_q_8_1 := R_q_1.cell 8 rfl
  have c_q_9_1 := R_q_1.cell 9 rfl
  have c_q_10_1 := R_q_1.cell 10 rfl
  have c_q_11_1 := R_q_1.cell 11 rfl
  have c_q_12_1 := R_q_1.cell 12 rfl
  have c_q_13_1 := R_q_1.cell 13 rfl
  have c_q_14_1 := R_q_1.cell 14 rfl
  have c_q_15_1 := R_q_1.cell 15 rfl
  have d_q_1 := ldV_row R_q_1 rfl
  have l_q_1 := R_q_1.lt
  have R_a_1 : Row w1 (w.heap.size + 1) [.int .i64 (k), .int .i64 (fr), .int .i64 (un), .int .i64 (ps)] := by (repeat' (first | (with_reducible assumption) | (with_reducible refine Row.new' _ _ _ (by first | rfl | (simp; done) | omega)) | (with_reducible refine Row.alloc ?_ _) | (with_reducible refine Row.drew ?_) | (with_reducible refine Row.drewN ?_ _) | (with_reducible refine Row.step ?_ (by with_reducible assumption)) | (with_reducible refine Row.set2' ?_ _ _; first | exact ⟨_, _, by with_reducible assumption⟩ | exact ⟨_, _, Row.alloc (by with_reducible assumption) _⟩ | exact ⟨_, _, Row.alloc (Row.alloc (by with_reducible assumption) _) _⟩) | (with_reducible refine Row.other ?_ (by first | omega | (simp; done) | (simp; omega)) _)))
  have c_a_0_1 := R_a_1.cell 0 rfl
  have c_a_1_1 := R_a_1.cell 1 rfl
  have c_a_2_1 := R_a_1.cell 2 rfl
  have c_a_3_1 := R_a_1.cell 3 rfl
  have l_a_1 := R_a_1.lt
  have R_o_1 : Row w1 (w.heap.size + 2) [.int .i64 o.id, .int .i64 o.lv, .int .i64 o.kd, .int .i64 o.fr, .int .i64 o.un, .int .i64 o.ls, .int .i64 o.ms, .int .i64 o.ar, .int .i64 o.kn, .int .i64 o.kk, .int .i64 o.wh.op, .int .i64 o.wh.n, .slice o.wh.at' o.wh.ks.length o.wh.cap, .int .i64 o.pr.op, .int .i64 o.pr.n, .slice o.pr.at' o.pr.ks.length o.pr.cap] := by (repeat' (first | (with_reducible assumption) | (with_reducible refine Row.new' _ _ _ (by first | rfl | (simp; done) | omega)) | (with_reducible refine Row.alloc ?_ _) | (with_reducible refine Row.drew ?_) | (with_reducible refine Row.drewN ?_ _) | (with_reducible refine Row.step ?_ (by with_reducible assumption)) | (with_reducible refine Row.set2' ?_ _ _; first | exact ⟨_, _, by with_reducible assumption⟩ | exact ⟨_, _, Row.alloc (by with_reducible assumption) _⟩ | exact ⟨_, _, Row.alloc (Row.alloc (by with_reducible assumption) _) _⟩) | (with_reducible refine Row.other ?_ (by first | omega | (simp; done) | (simp; omega)) _)))
  have c_o_0_1 := R_o_1.cell 0 rfl
  have c_o_1_1 := R_o_1.cell 1 rfl
  have c_o_2_1 := R_o_1.cell 2 rfl
  have c_o_3_1 := R_o_1.cell 3 rfl
  have c_o_4_1 := R_o_1.cell 4 rfl
  have c_o_5_1 := R_o_1.cell 5 rfl
  have c_o_6_1 := R_o_1.cell 6 rfl
  have c_o_7_1 := R_o_1.cell 7 rfl
  have c_o_8_1 := R_o_1.cell 8 rfl
  have c_o_9_1 := R_o_1.cell 9 rfl
  have c_o_10_1 := R_o_1.cell 10 rfl
  have c_o_11_1 := R_o_1.cell 11 rfl
  have c_o_12_1 := R_o_1.cell 12 rfl
  have c_o_13_1 := R_o_1.cell 13 rfl
  have c_o_14_1 := R_o_1.cell 14 rfl
  have c_o_15_1 := R_o_1.cell 15 rfl
  have d_o_1 := ldV_row R_o_1 rfl
  have l_o_1 := R_o_1.lt
  have HB1 : Below w.heap.size w w1 := by (repeat' (first | (with_reducible exact Below.refl _ _) | (with_reducible assumption) | (with_reducible exact Bw.out (by with_reducible assumption)) | (with_reducible refine bw_alloc ?_ _) | (with_reducible refine bw_step ?_ (by with_reducible assumption)) | (with_reducible refine Below.alloc ?_ ?_ _) | (with_reducible refine Below.drew ?_) | (with_reducible refine below_drewN ?_ _) | (with_reducible refine Below.setCell ?_ ?_ _) | (with_reducible refine below_step ?_ (by with_reducible assumption) ?_) | (with_reducible exact Nat.le_refl _) | omega | (simp; omega) | (simp; done)))
  go_wp2_with fail
  have hs2 : SlR (w1.alloc (.cells #[.int .i64 r.id, .int .i64 r.lv, .int .i64 r.kd, .int .i64 r.fr, .int .i64 r.un, .int .i64 r.ls, .int .i64 r.ms, .int .i64 r.ar, .int .i64 r.kn, .int .i64 r.kk, .int .i64 r.wh.op, .int .i64 r.wh.n, .slice r.wh.at' r.wh.ks.length r.wh.cap, .int .i64 r.pr.op, .int .i64 r.pr.n, .slice r.pr.at' r.pr.ks.length r.pr.cap, .int .i64 o.id, .int .i64 o.lv, .int .i64 o.kd, .int .i64 o.fr, .int .i64 o.un, .int .i64 o.ls, .int .i64 o.ms, .int .i64 o.ar, .int .i64 o.kn, .int .i64 o.kk, .int .i64 o.wh.op, .int .i64 o.wh.n, .slice o.wh.at' o.wh.ks.length o.wh.cap, .int .i64 o.pr.op, .int .i64 o.pr.n, .slice o.pr.at' o.pr.ks.length o.pr.cap] 30)) (some ⟨w1.heap.size, 0, none⟩) 2 [r, o] :=
    slr_new [r, o] _ _ rfl rfl (fun x hx => by simp at hx; rcases hx with rfl | rfl; exact HIN.out.step HB1; exact HIO.out.step HB1) 2 rfl
  refine (R_fewR_p _ 2 2 [r, o] _ (by omega) hs2 p HP.out).mono ?_
  rintro e w2 ⟨rfl, hb2⟩
  have R_q_2 : Row w2 (w.heap.size) [.int .i64 r.id, .int .i64 r.lv, .int .i64 r.kd, .int .i64 r.fr, .int .i64 r.un, .int .i64 r.ls, .int .i64 r.ms, .int .i64 r.ar, .int .i64 r.kn, .int .i64 r.kk, .int .i64 r.wh.op, .int .i64 r.wh.n, .slice r.wh.at' r.wh.ks.length r.wh.cap, .int .i64 r.pr.op, .int .i64 r.pr.n, .slice r.pr.at' r.pr.ks.length r.pr.cap] := by (repeat' (first | (with_reducible assumption) | (with_reducible refine Row.new' _ _ _ (by first | rfl | (simp; done) | omega)) | (with_reducible refine Row.alloc ?_ _) | (with_reducible refine Row.drew ?_) | (with_reducible refine Row.drewN ?_ _) | (with_reducible refine Row.step ?_ (by with_reducible assumption)) | (with_reducible refine Row.set2' ?_ _ _; first | exact ⟨_, _, by with_reducible assumption⟩ | exact ⟨_, _, Row.alloc (by with_reducible assumption) _⟩ | exact ⟨_, _, Row.alloc (Row.alloc (by with_reducible assumption) _) _⟩) | (with_reducible refine Row.other ?_ (by first | omega | (simp; done) | (simp; omega)) _)))
  have c_q_0_2 := R_q_2.cell 0 rfl
  have c_q_1_2 := R_q_2.cell 1 rfl
  have c_q_2_2 := R_q_2.cell 2 rfl
  have c_q_3_2 := R_q_2.cell 3 rfl
  have c_q_4_2 := R_q_2.cell 4 rfl
  have c_q_5_2 := R_q_2.cell 5 rfl
  have c_q_6_2 := R_q_2.cell 6 rfl
  have c_q_7_2 := R_q_2.cell 7 rfl
  have c_q_8_2 := R_q_2.cell 8 rfl
  have c_q_9_2 := R_q_2.cell 9 rfl
  have c_q_10_2 := R_q_2.cell 10 rfl
  have c_q_11_2 := R_q_2.cell 11 rfl
  have c_q_12_2 := R_q_2.cell 12 rfl
  have c_q_13_2 := R_q_2.cell 13 rfl
  have c_q_14_2 := R_q_2.cell 14 rfl
  have c_q_15_2 := R_q_2.cell 15 rfl
  have d_q_2 := ldV_row R_q_2 rfl
  have l_q_2 := R_q_2.lt
  have R_a_2 : Row w2 (w.heap.size + 1) [.int .i64 (k), .int .i64 (fr), .int .i64 (un), .int .i64 (ps)] := by (repeat' (first | (with_reducible assumption) | (with_reducible refine Row.new' _ _ _ (by first | rfl | (simp; done) | omega)) | (with_reducible refine Row.alloc ?_ _) | (with_reducible refine Row.drew ?_) | (with_reducible refine Row.drewN ?_ _) | (with_reducible refine Row.step ?_ (by with_reducible assumption)) | (with_reducible refine Row.set2' ?_ _ _; first | exact ⟨_, _, by with_reducible assumption⟩ | exact ⟨_, _, Row.alloc (by with_reducible assumption) _⟩ | exact ⟨_, _, Row.alloc (Row.alloc (by with_reducible assumption) _) _⟩) | (with_reducible refine Row.other ?_ (by first | omega | (simp; done) | (simp; omega)) _)))
  have c_a_0_2 := R_a_2.cell 0 rfl
  have c_a_1_2 := R_a_2.cell 1 rfl
  have c_a_2_2 := R_a_2.cell 2 rfl
  have c_a_3_2 := R_a_2.cell 3 rfl
  have l_a_2 := R_a_2.lt
  have R_o_2 : Row w2 (w.heap.size + 2) [.int .i64 o.id, .int .i64 o.lv, .int .i64 o.kd, .int .i64 o.fr, .int .i64 o.un, .int .i64 o.ls, .int .i64 o.ms, .int .i64 o.ar, .int .i64 o.kn, .int .i64 o.kk, .int .i64 o.wh.op, .int .i64 o.wh.n, .slice o.wh.at' o.wh.ks.length o.wh.cap, .int .i64 o.pr.op, .int .i64 o.pr.n, .slice o.pr.at' o.pr.ks.length o.pr.cap] := by (repeat' (first | (with_reducible assumption) | (with_reducible refine Row.new' _ _ _ (by first | rfl | (simp; done) | omega)) | (with_reducible refine Row.alloc ?_ _) | (with_reducible refine Row.drew ?_) | (with_reducible refine Row.drewN ?_ _) | (with_reducible refine Row.step ?_ (by with_reducible assumption)) | (with_reducible refine Row.set2' ?_ _ _; first | exact ⟨_, _, by with_reducible assumption⟩ | exact ⟨_, _, Row.alloc (by with_reducible assumption) _⟩ | exact ⟨_, _, Row.alloc (Row.alloc (by with_reducible assumption) _) _⟩) | (with_reducible refine Row.other ?_ (by first | omega | (simp; done) | (simp; omega)) _)))
  have c_o_0_2 := R_o_2.cell 0 rfl
  have c_o_1_2 := R_o_2.cell 1 rfl
  have c_o_2_2 := R_o_2.cell 2 rfl
  have c_o_3_2 := R_o_2.cell 3 rfl
  have c_o_4_2 := R_o_2.cell 4 rfl
  have c_o_5_2 := R_o_2.cell 5 rfl
  have c_o_6_2 := R_o_2.cell 6 rfl
  have c_o_7_2 := R_o_2.cell 7 rfl
  have c_o_8_2 := R_o_2.cell 8 rfl
  have c_o_9_2 := R_o_2.cell 9 rfl
  have c_o_10_2 := R_o_2.cell 10 rfl
  have c_o_11_2 := R_o_2.cell 11 rfl
  have c_o_12_2 := R_o_2.cell 12 rfl
  have c_o_13_2 := R_o_2.cell 13 rfl
  have c_o_14_2 := R_o_2.cell 14 rfl
  have c_o_15_2 := R_o_2.cell 15 rfl
  have d_o_2 := ldV_row R_o_2 rfl
  have l_o_2 := R_o_2.lt
  have HB2 : Below w.heap.size w w2 := by (repeat' (first | (with_reducible exact Below.refl _ _) | (with_reducible assumption) | (with_reducible exact Bw.out (by with_reducible assumption)) | (with_reducible refine bw_alloc ?_ _) | (with_reducible refine bw_step ?_ (by with_reducible assumption)) | (with_reducible refine Below.alloc ?_ ?_ _) | (with_reducible refine Below.drew ?_) | (with_reducible refine below_drewN ?_ _) | (with_reducible refine Below.setCell ?_ ?_ _) | (with_reducible refine below_step ?_ (by with_reducible assumption) ?_) | (with_reducible exact Nat.le_refl _) | omega | (simp; omega) | (simp; done)))
  clear R_q_1 c_q_0_1 c_q_1_1 c_q_2_1 c_q_3_1 c_q_4_1 c_q_5_1 c_q_6_1 c_q_7_1 c_q_8_1 c_q_9_1 c_q_10_1 c_q_11_1 c_q_12_1 c_q_13_1 c_q_14_1 c_q_15_1 d_q_1 R_a_1 c_a_0_1 c_a_1_1 c_a_2_1 c_a_3_1 R_o_1 c_o_0_1 c_o_1_1 c_o_2_1 c_o_3_1 c_o_4_1 c_o_5_1 c_o_6_1 c_o_7_1 c_o_8_1 c_o_9_1 c_o_10_1 c_o_11_1 c_o_12_1 c_o_13_1 c_o_14_1 c_o_15_1 d_o_1 hb1 HB1
  cases p with
  | false =>
    go_wp2_with fail
    go_ret
    refine ⟨(by first | rfl | exact ret_bool (by first | rfl | (simp; done) | (simp; omega))), ?_⟩
    (repeat' (first | (with_reducible exact Below.refl _ _) | (with_reducible assumption) | (with_reducible exact Bw.out (by with_reducible assumption)) | (with_reducible refine bw_alloc ?_ _) | (with_reducible refine bw_step ?_ (by with_reducible assumption)) | (with_reducible refine Below.alloc ?_ ?_ _) | (with_reducible refine Below.drew ?_) | (with_reducible refine below_drewN ?_ _) | (with_reducible refine Below.setCell ?_ ?_ _) | (with_reducible refine below_step ?_ (by with_reducible assumption) ?_) | (with_reducible exact Nat.le_refl _) | omega | (simp; omega) | (simp; done)))
  | true =>
    go_upto_region 5 with fail
    obtain ⟨w3, hw3⟩ : ∃ x, World.alloc w2 (.cells #[.int .i64 r.id, .int .i64 r.lv, .int .i64 r.kd, .int .i64 r.fr, .int .i64 r.un, .int .i64 r.ls, .int .i64 r.ms, .int .i64 r.ar, .int .i64 r.kn, .int .i64 r.kk, .int .i64 r.wh.op, .int .i64 r.wh.n, .slice r.wh.at' r.wh.ks.length r.wh.cap, .int .i64 r.pr.op, .int .i64 r.pr.n, .slice r.pr.at' r.pr.ks.length r.pr.cap] 30) = x := ⟨_, rfl⟩
    rw [hw3]
    have hb3 : Below w2.heap.size w2 w3 := by rw [← hw3]; (repeat' (first | (with_reducible exact Below.refl _ _) | (with_reducible assumption) | (with_reducible exact Bw.out (by with_reducible assumption)) | (with_reducible refine bw_alloc ?_ _) | (with_reducible refine bw_step ?_ (by with_reducible assumption)) | (with_reducible refine Below.alloc ?_ ?_ _) | (with_reducible refine Below.drew ?_) | (with_reducible refine below_drewN ?_ _) | (with_reducible refine Below.setCell ?_ ?_ _) | (with_reducible refine below_step ?_ (by with_reducible assumption) ?_) | (with_reducible exact Nat.le_refl _) | omega | (simp; omega) | (simp; done)))
    have R_q_3 : Row w3 (w.heap.size) [.int .i64 r.id, .int .i64 r.lv, .int .i64 r.kd, .int .i64 r.fr, .int .i64 r.un, .int .i64 r.ls, .int .i64 r.ms, .int .i64 r.ar, .int .i64 r.kn, .int .i64 r.kk, .int .i64 r.wh.op, .int .i64 r.wh.n, .slice r.wh.at' r.wh.ks.length r.wh.cap, .int .i64 r.pr.op, .int .i64 r.pr.n, .slice r.pr.at' r.pr.ks.length r.pr.cap] := by rw [← hw3]; (repeat' (first | (with_reducible assumption) | (with_reducible refine Row.new' _ _ _ (by first | rfl | (simp; done) | omega)) | (with_reducible refine Row.alloc ?_ _) | (with_reducible refine Row.drew ?_) | (with_reducible refine Row.drewN ?_ _) | (with_reducible refine Row.step ?_ (by with_reducible assumption)) | (with_reducible refine Row.set2' ?_ _ _; first | exact ⟨_, _, by with_reducible assumption⟩ | exact ⟨_, _, Row.alloc (by with_reducible assumption) _⟩ | exact ⟨_, _, Row.alloc (Row.alloc (by with_reducible assumption) _) _⟩) | (with_reducible refine Row.other ?_ (by first | omega | (simp; done) | (simp; omega)) _)))
    have c_q_0_3 := R_q_3.cell 0 rfl
    have c_q_1_3 := R_q_3.cell 1 rfl
    have c_q_2_3 := R_q_3.cell 2 rfl
    have c_q_3_3 := R_q_3.cell 3 rfl
    have c_q_4_3 := R_q_3.cell 4 rfl
    have c_q_5_3 := R_q_3.cell 5 rfl
    have c_q_6_3 := R_q_3.cell 6 rfl
    have c_q_7_3 := R_q_3.cell 7 rfl
    have c_q_8_3 := R_q_3.cell 8 rfl
    have c_q_9_3 := R_q_3.cell 9 rfl
    have c_q_10_3 := R_q_3.cell 10 rfl
    have c_q_11_3 := R_q_3.cell 11 rfl
    have c_q_12_3 := R_q_3.cell 12 rfl
    have c_q_13_3 := R_q_3.cell 13 rfl
    have c_q_14_3 := R_q_3.cell 14 rfl
    have c_q_15_3 := R_q_3.cell 15 rfl
    have d_q_3 := ldV_row R_q_3 rfl
    have l_q_3 := R_q_3.lt
    have R_a_3 : Row w3 (w.heap.size + 1) [.int .i64 (k), .int .i64 (fr), .int .i64 (un), .int .i64 (ps)] := by rw [← hw3]; (repeat' (first | (with_reducible assumption) | (with_reducible refine Row.new' _ _ _ (by first | rfl | (simp; done) | omega)) | (with_reducible refine Row.alloc ?_ _) | (with_reducible refine Row.drew ?_) | (with_reducible refine Row.drewN ?_ _) | (with_reducible refine Row.step ?_ (by with_reducible assumption)) | (with_reducible refine Row.set2' ?_ _ _; first | exact ⟨_, _, by with_reducible assumption⟩ | exact ⟨_, _, Row.alloc (by with_reducible assumption) _⟩ | exact ⟨_, _, Row.alloc (Row.alloc (by with_reducible assumption) _) _⟩) | (with_reducible refine Row.other ?_ (by first | omega | (simp; done) | (simp; omega)) _)))
    have c_a_0_3 := R_a_3.cell 0 rfl
    have c_a_1_3 := R_a_3.cell 1 rfl
    have c_a_2_3 := R_a_3.cell 2 rfl
    have c_a_3_3 := R_a_3.cell 3 rfl
    have l_a_3 := R_a_3.lt
    have R_o_3 : Row w3 (w.heap.size + 2) [.int .i64 o.id, .int .i64 o.lv, .int .i64 o.kd, .int .i64 o.fr, .int .i64 o.un, .int .i64 o.ls, .int .i64 o.ms, .int .i64 o.ar, .int .i64 o.kn, .int .i64 o.kk, .int .i64 o.wh.op, .int .i64 o.wh.n, .slice o.wh.at' o.wh.ks.length o.wh.cap, .int .i64 o.pr.op, .int .i64 o.pr.n, .slice o.pr.at' o.pr.ks.length o.pr.cap] := by rw [← hw3]; (repeat' (first | (with_reducible assumption) | (with_reducible refine Row.new' _ _ _ (by first | rfl | (simp; done) | omega)) | (with_reducible refine Row.alloc ?_ _) | (with_reducible refine Row.drew ?_) | (with_reducible refine Row.drewN ?_ _) | (with_reducible refine Row.step ?_ (by with_reducible assumption)) | (with_reducible refine Row.set2' ?_ _ _; first | exact ⟨_, _, by with_reducible assumption⟩ | exact ⟨_, _, Row.alloc (by with_reducible assumption) _⟩ | exact ⟨_, _, Row.alloc (Row.alloc (by with_reducible assumption) _) _⟩) | (with_reducible refine Row.other ?_ (by first | omega | (simp; done) | (simp; omega)) _)))
    have c_o_0_3 := R_o_3.cell 0 rfl
    have c_o_1_3 := R_o_3.cell 1 rfl
    have c_o_2_3 := R_o_3.cell 2 rfl
    have c_o_3_3 := R_o_3.cell 3 rfl
    have c_o_4_3 := R_o_3.cell 4 rfl
    have c_o_5_3 := R_o_3.cell 5 rfl
    have c_o_6_3 := R_o_3.cell 6 rfl
    have c_o_7_3 := R_o_3.cell 7 rfl
    have c_o_8_3 := R_o_3.cell 8 rfl
    have c_o_9_3 := R_o_3.cell 9 rfl
    have c_o_10_3 := R_o_3.cell 10 rfl
    have c_o_11_3 := R_o_3.cell 11 rfl
    have c_o_12_3 := R_o_3.cell 12 rfl
    have c_o_13_3 := R_o_3.cell 13 rfl
    have c_o_14_3 := R_o_3.cell 14 rfl
    have c_o_15_3 := R_o_3.cell 15 rfl
    have d_o_3 := ldV_row R_o_3 rfl
    have l_o_3 := R_o_3.lt
    have R_x_3 : Row w3 (w2.heap.size) [.int .i64 r.id, .int .i64 r.lv, .int .i64 r.kd, .int .i64 r.fr, .int .i64 r.un, .int .i64 r.ls, .int .i64 r.ms, .int .i64 r.ar, .int .i64 r.kn, .int .i64 r.kk, .int .i64 r.wh.op, .int .i64 r.wh.n, .slice r.wh.at' r.wh.ks.length r.wh.cap, .int .i64 r.pr.op, .int .i64 r.pr.n, .slice r.pr.at' r.pr.ks.length r.pr.cap] := by rw [← hw3]; (repeat' (first | (with_reducible assumption) | (with_reducible refine Row.new' _ _ _ (by first | rfl | (simp; done) | omega)) | (with_reducible refine Row.alloc ?_ _) | (with_reducible refine Row.drew ?_) | (with_reducible refine Row.drewN ?_ _) | (with_reducible refine Row.step ?_ (by with_reducible assumption)) | (with_reducible refine Row.set2' ?_ _ _; first | exact ⟨_, _, by with_reducible assumption⟩ | exact ⟨_, _, Row.alloc (by with_reducible assumption) _⟩ | exact ⟨_, _, Row.alloc (Row.alloc (by with_reducible assumption) _) _⟩) | (with_reducible refine Row.other ?_ (by first | omega | (simp; done) | (simp; omega)) _)))
    have c_x_0_3 := R_x_3.cell 0 rfl
    have c_x_1_3 := R_x_3.cell 1 rfl
    have c_x_2_3 := R_x_3.cell 2 rfl
    have c_x_3_3 := R_x_3.cell 3 rfl
    have c_x_4_3 := R_x_3.cell 4 rfl
    have c_x_5_3 := R_x_3.cell 5 rfl
    have c_x_6_3 := R_x_3.cell 6 rfl
    have c_x_7_3 := R_x_3.cell 7 rfl
    have c_x_8_3 := R_x_3.cell 8 rfl
    have c_x_9_3 := R_x_3.cell 9 rfl
    have c_x_10_3 := R_x_3.cell 10 rfl
    have c_x_11_3 := R_x_3.cell 11 rfl
    have c_x_12_3 := R_x_3.cell 12 rfl
    have c_x_13_3 := R_x_3.cell 13 rfl
    have c_x_14_3 := R_x_3.cell 14 rfl
    have c_x_15_3 := R_x_3.cell 15 rfl
    have z_x_0_3 := R_x_3.frozen 0
    have z_x_1_3 := R_x_3.frozen 1
    have z_x_2_3 := R_x_3.frozen 2
    have z_x_3_3 := R_x_3.frozen 3
    have z_x_4_3 := R_x_3.frozen 4
    have z_x_5_3 := R_x_3.frozen 5
    have z_x_6_3 := R_x_3.frozen 6
    have z_x_7_3 := R_x_3.frozen 7
    have z_x_8_3 := R_x_3.frozen 8
    have z_x_9_3 := R_x_3.frozen 9
    have z_x_10_3 := R_x_3.frozen 10
    have z_x_11_3 := R_x_3.frozen 11
    have z_x_12_3 := R_x_3.frozen 12
    have z_x_13_3 := R_x_3.frozen 13
    have z_x_14_3 := R_x_3.frozen 14
    have z_x_15_3 := R_x_3.frozen 15
    have d_x_3 := ldV_row R_x_3 rfl
    have s_x_3 := stB_row R_x_3 rfl
    have l_x_3 := R_x_3.lt
    have HB3 := HB2.trans (hb3.mono HB2.size)
    have hs3 := hb3.size
    have hz3 := HB3.size
    clear R_q_2 c_q_0_2 c_q_1_2 c_q_2_2 c_q_3_2 c_q_4_2 c_q_5_2 c_q_6_2 c_q_7_2 c_q_8_2 c_q_9_2 c_q_10_2 c_q_11_2 c_q_12_2 c_q_13_2 c_q_14_2 c_q_15_2 d_q_2 R_a_2 c_a_0_2 c_a_1_2 c_a_2_2 c_a_3_2 R_o_2 c_o_0_2 c_o_1_2 c_o_2_2 c_o_3_2 c_o_4_2 c_o_5_2 c_o_6_2 c_o_7_2 c_o_8_2 c_o_9_2 c_o_10_2 c_o_11_2 c_o_12_2 c_o_13_2 c_o_14_2 c_o_15_2 d_o_2 hb2 HB2
    have HSX : Hid (∀ W, Row W (w.heap.size + 2) [.int .i64 o.id, .int .i64 o.lv, .int .i64 o.kd, .int .i64 o.fr, .int .i64 o.un, .int .i64 o.ls, .int .i64 o.ms, .int .i64 o.ar, .int .i64 o.kn, .int .i64 o.kk, .int .i64 o.wh.op, .int .i64 o.wh.n, .slice o.wh.at' o.wh.ks.length o.wh.cap, .int .i64 o.pr.op, .int .i64 o.pr.n, .slice o.pr.at' o.pr.ks.length o.pr.cap] → W.cell? ⟨w.heap.size + 2, 0, none⟩ = some (.int .i64 o.id) ∧ W.cell? ⟨w.heap.size + 2, 1, none⟩ = some (.int .i64 o.lv) ∧ W.cell? ⟨w.heap.size + 2, 8, none⟩ = some (.int .i64 o.kn) ∧ W.cell? ⟨w.heap.size + 2, 9, none⟩ = some (.int .i64 o.kk) ∧ W.cell? ⟨w.heap.size + 2, 13, none⟩ = some (.int .i64 o.pr.op) ∧ W.cell? ⟨w.heap.size + 2, 14, none⟩ = some (.int .i64 o.pr.n) ∧ W.cell? ⟨w.heap.size + 2, 15, none⟩ = some (.slice o.pr.at' o.pr.ks.length o.pr.cap)) := fun W h =>
      ⟨h.cell 0 rfl, h.cell 1 rfl, h.cell 8 rfl, h.cell 9 rfl, h.cell 13 rfl, h.cell 14 rfl, h.cell 15 rfl⟩
    refine AnyJ.beginP (fun W => W.cell? ⟨w.heap.size + 2, 0, none⟩ = some (.int .i64 o.id) ∧ W.cell? ⟨w.heap.size + 2, 1, none⟩ = some (.int .i64 o.lv) ∧ W.cell? ⟨w.heap.size + 2, 8, none⟩ = some (.int .i64 o.kn) ∧ W.cell? ⟨w.heap.size + 2, 9, none⟩ = some (.int .i64 o.kk) ∧ W.cell? ⟨w.heap.size + 2, 13, none⟩ = some (.int .i64 o.pr.op) ∧ W.cell? ⟨w.heap.size + 2, 14, none⟩ = some (.int .i64 o.pr.n) ∧ W.cell? ⟨w.heap.size + 2, 15, none⟩ = some (.slice o.pr.at' o.pr.ks.length o.pr.cap)) (fun _ => true) (by kernel_rfl) (HSX.out _ R_o_3.drew) (fun hS => ?_)
    obtain ⟨v3, hv3⟩ : ∃ X, World.drew w3 = X := ⟨_, rfl⟩
    have RXv3 := R_x_3.drew
    have ROv3 := R_o_3.drew
    have hbv3 : Below w2.heap.size w3 v3 := by rw [← hv3]; exact (((Below.refl _ w3).drew).mono (by omega))
    rw [hv3] at hS RXv3 ROv3 ⊢
    clear hv3
    refine AnyJ.takeD (i := 0) (d := some 31) (v := ?_) rfl (by kernel_rfl) (by kernel_rfl) (by kernel_rfl) (by kernel_rfl) (by kernel_rfl) (fun _ _ _ h => h) (Or.inl ⟨by kernel_rfl, ?_⟩) hS ?_
    rotate_left
    · intro w' hS
      obtain ⟨s0, s1, s2, s3, s4, s5, s6⟩ := hS
      go_simp
      try with_reducible rfl
    refine AnyJ.takeD (i := 1) (d := some 32) (v := ?_) rfl (by kernel_rfl) (by kernel_rfl) (by kernel_rfl) (by kernel_rfl) (by kernel_rfl) (fun _ _ _ h => h) (Or.inl ⟨by kernel_rfl, ?_⟩) hS ?_
    rotate_left
    · intro w' hS
      obtain ⟨s0, s1, s2, s3, s4, s5, s6⟩ := hS
      go_simp
      try with_reducible rfl
    refine AnyJ.takeD (i := 2) (d := some 33) (v := ?_) rfl (by kernel_rfl) (by kernel_rfl) (by kernel_rfl) (by kernel_rfl) (by kernel_rfl) (fun _ _ _ h => h) (Or.inl ⟨by kernel_rfl, ?_⟩) hS ?_
    rotate_left
    · intro w' hS
      obtain ⟨s0, s1, s2, s3, s4, s5, s6⟩ := hS
      go_simp
      try with_reducible rfl
    refine AnyJ.takeD (i := 3) (d := some 34) (v := ?_) rfl (by kernel_rfl) (by kernel_rfl) (by kernel_rfl) (by kernel_rfl) (by kernel_rfl) (fun _ _ _ h => h) (Or.inl ⟨by kernel_rfl, ?_⟩) hS ?_
    rotate_left
    · intro w' hS
      obtain ⟨s0, s1, s2, s3, s4, s5, s6⟩ := hS
      go_simp
      try with_reducible rfl
    refine AnyJ.takeD (i := 4) (d := some 35) (v := ?_) rfl (by kernel_rfl) (by kernel_rfl) (by kernel_rfl) (by kernel_rfl) (by kernel_rfl) (fun _ _ _ h => h) (Or.inl ⟨by kernel_rfl, ?_⟩) hS ?_
    rotate_left
    · intro w' hS
      obtain ⟨s0, s1, s2, s3, s4, s5, s6⟩ := hS
      go_simp
      try with_reducible rfl
    refine AnyJ.takeD (i := 5) (d := some 36) (v := ?_) rfl (by kernel_rfl) (by kernel_rfl) (by kernel_rfl) (by kernel_rfl) (by kernel_rfl) (fun _ _ _ h => h) (Or.inl ⟨by kernel_rfl, ?_⟩) hS ?_
    rotate_left
    · intro w' hS
      obtain ⟨s0, s1, s2, s3, s4, s5, s6⟩ := hS
      go_simp
      try with_reducible rfl
    refine AnyJ.takeD (i := 6) (d := some 37) (v := ?_) rfl (by kernel_rfl) (by kernel_rfl) (by kernel_rfl) (by kernel_rfl) (by kernel_rfl) (fun _ _ _ h => h) (Or.inl ⟨by kernel_rfl, ?_⟩) hS ?_
    rotate_left
    · intro w' hS
      obtain ⟨s0, s1, s2, s3, s4, s5, s6⟩ := hS
      go_simp
      try with_reducible rfl
    refine AnyJ.takeD (i := 7) (d := some 38) (v := ?_) rfl (by kernel_rfl) (by kernel_rfl) (by kernel_rfl) (by kernel_rfl) (by kernel_rfl) (fun _ _ _ h => h) (Or.inl ⟨by kernel_rfl, ?_⟩) hS ?_
    rotate_left
    · intro w' hS
      obtain ⟨s0, s1, s2, s3, s4, s5, s6⟩ := hS
      go_simp
      try with_reducible rfl
    refine AnyJ.takeD (i := 8) (d := some 39) (v := ?_) rfl (by kernel_rfl) (by kernel_rfl) (by kernel_rfl) (by kernel_rfl) (by kernel_rfl) (fun _ _ _ h => h) (Or.inl ⟨by kernel_rfl, ?_⟩) hS ?_
    rotate_left
    · intro w' hS
      obtain ⟨s0, s1, s2, s3, s4, s5, s6⟩ := hS
      go_simp
      try with_reducible rfl
    have xl := RXv3.lt
    have x0 := RXv3.cell 0 rfl
    have z0 := RXv3.frozen 0
    refine AnyJ.one (i := 9) (by kernel_rfl) rfl (fun Kz hKz => ?_)
    go_simp
    obtain ⟨v4, hvv4⟩ : ∃ X, (World.setCell v3 ⟨w2.heap.size, 0, none⟩ (.int .i64 o.id)) = X := ⟨_, rfl⟩
    rw [hvv4]
    have hCv4 : Ch (fun k => k = w2.heap.size) v3 v4 := by rw [← hvv4]; exact ((Ch.refl (fun k => k = w2.heap.size) v3).setCell (p := ⟨w2.heap.size, 0, none⟩) rfl (.int .i64 o.id))
    have RXv4 : Row v4 w2.heap.size [.int .i64 o.id, .int .i64 r.lv, .int .i64 r.kd, .int .i64 r.fr, .int .i64 r.un, .int .i64 r.ls, .int .i64 r.ms, .int .i64 r.ar, .int .i64 r.kn, .int .i64 r.kk, .int .i64 r.wh.op, .int .i64 r.wh.n, .slice r.wh.at' r.wh.ks.length r.wh.cap, .int .i64 r.pr.op, .int .i64 r.pr.n, .slice r.pr.at' r.pr.ks.length r.pr.cap] := by rw [← hvv4]; exact (RXv3.setAtZ 0 (.int .i64 o.id))
    have ROv4 := ROv3.ch hCv4 (by omega)
    have hSv4 := HSX.out v4 ROv4
    refine hKz _ _ (fun _ => hSv4) ?_
    clear hKz Kz hS hvv4 xl x0 z0
    have hS := hSv4
    clear hSv4
    refine AnyJ.takeD (i := 10) (d := some 40) (v := ?_) rfl (by kernel_rfl) (by kernel_rfl) (by kernel_rfl) (by kernel_rfl) (by kernel_rfl) (fun _ _ _ h => h) (Or.inl ⟨by kernel_rfl, ?_⟩) hS ?_
    rotate_left
    · intro w' hS
      obtain ⟨s0, s1, s2, s3, s4, s5, s6⟩ := hS
      go_simp
      try with_reducible rfl
    have xl := RXv4.lt
    have x1 := RXv4.cell 1 rfl
    have z1 := RXv4.frozen 1
    refine AnyJ.one (i := 11) (by kernel_rfl) rfl (fun Kz hKz => ?_)
    go_simp
    obtain ⟨v5, hvv5⟩ : ∃ X, (World.setCell v4 ⟨w2.heap.size, 1, none⟩ (.int .i64 o.lv)) = X := ⟨_, rfl⟩
    rw [hvv5]
    have hCv5 : Ch (fun k => k = w2.heap.size) v4 v5 := by rw [← hvv5]; exact ((Ch.refl (fun k => k = w2.heap.size) v4).setCell (p := ⟨w2.heap.size, 1, none⟩) rfl (.int .i64 o.lv))
    have RXv5 : Row v5 w2.heap.size [.int .i64 o.id, .int .i64 o.lv, .int .i64 r.kd, .int .i64 r.fr, .int .i64 r.un, .int .i64 r.ls, .int .i64 r.ms, .int .i64 r.ar, .int .i64 r.kn, .int .i64 r.kk, .int .i64 r.wh.op, .int .i64 r.wh.n, .slice r.wh.at' r.wh.ks.length r.wh.cap, .int .i64 r.pr.op, .int .i64 r.pr.n, .slice r.pr.at' r.pr.ks.length r.pr.cap] := by rw [← hvv5]; exact (RXv4.setAtZ 1 (.int .i64 o.lv))
    have ROv5 := ROv4.ch hCv5 (by omega)
    have hSv5 := HSX.out v5 ROv5
    refine hKz _ _ (fun _ => hSv5) ?_
    clear hKz Kz hS hvv5 xl x1 z1
    have hS := hSv5
    clear hSv5
    refine AnyJ.takeD (i := 12) (d := some 41) (v := ?_) rfl (by kernel_rfl) (by kernel_rfl) (by kernel_rfl) (by kernel_rfl) (by kernel_rfl) (fun _ _ _ h => h) (Or.inl ⟨by kernel_rfl, ?_⟩) hS ?_
    rotate_left
    · intro w' hS
      obtain ⟨s0, s1, s2, s3, s4, s5, s6⟩ := hS
      go_simp
      try with_reducible rfl
    have xl := RXv5.lt
    have x13 := RXv5.cell 13 rfl
    have z13 := RXv5.frozen 13
    have x14 := RXv5.cell 14 rfl
    have z14 := RXv5.frozen 14
    have x15 := RXv5.cell 15 rfl
    have z15 := RXv5.frozen 15
    refine AnyJ.one (i := 13) (by kernel_rfl) rfl (fun Kz hKz => ?_)
    go_simp
    obtain ⟨v6, hvv6⟩ : ∃ X, (World.setCell (World.setCell (World.setCell v5 ⟨w2.heap.size, 13, none⟩ (.int .i64 o.pr.op)) ⟨w2.heap.size, 14, none⟩ (.int .i64 o.pr.n)) ⟨w2.heap.size, 15, none⟩ (.slice o.pr.at' o.pr.ks.length o.pr.cap)) = X := ⟨_, rfl⟩
    rw [hvv6]
    have hCv6 : Ch (fun k => k = w2.heap.size) v5 v6 := by rw [← hvv6]; exact ((((Ch.refl (fun k => k = w2.heap.size) v5).setCell (p := ⟨w2.heap.size, 13, none⟩) rfl (.int .i64 o.pr.op)).setCell (p := ⟨w2.heap.size, 14, none⟩) rfl (.int .i64 o.pr.n)).setCell (p := ⟨w2.heap.size, 15, none⟩) rfl (.slice o.pr.at' o.pr.ks.length o.pr.cap))
    have RXv6 : Row v6 w2.heap.size [.int .i64 o.id, .int .i64 o.lv, .int .i64 r.kd, .int .i64 r.fr, .int .i64 r.un, .int .i64 r.ls, .int .i64 r.ms, .int .i64 r.ar, .int .i64 r.kn, .int .i64 r.kk, .int .i64 r.wh.op, .int .i64 r.wh.n, .slice r.wh.at' r.wh.ks.length r.wh.cap, .int .i64 o.pr.op, .int .i64 o.pr.n, .slice o.pr.at' o.pr.ks.length o.pr.cap] := by rw [← hvv6]; exact (((RXv5.setAtZ 13 (.int .i64 o.pr.op)).setAtZ 14 (.int .i64 o.pr.n)).setAtZ 15 (.slice o.pr.at' o.pr.ks.length o.pr.cap))
    have ROv6 := ROv5.ch hCv6 (by omega)
    have hSv6 := HSX.out v6 ROv6
    refine hKz _ _ (fun _ => hSv6) ?_
    clear hKz Kz hS hvv6 xl x13 z13 x14 z14 x15 z15
    have hS := hSv6
    clear hSv6
    refine AnyJ.takeD (i := 14) (d := some 42) (v := ?_) rfl (by kernel_rfl) (by kernel_rfl) (by kernel_rfl) (by kernel_rfl) (by kernel_rfl) (fun _ _ _ h => h) (Or.inl ⟨by kernel_rfl, ?_⟩) hS ?_
    rotate_left
    · intro w' hS
      obtain ⟨s0, s1, s2, s3, s4, s5, s6⟩ := hS
      go_simp
      try with_reducible rfl
    have xl := RXv6.lt
    have x8 := RXv6.cell 8 rfl
    have z8 := RXv6.frozen 8
    have x9 := RXv6.cell 9 rfl
    have z9 := RXv6.frozen 9
    refine AnyJ.one (i := 15) (by kernel_rfl) rfl (fun Kz hKz => ?_)
    go_simp
    obtain ⟨v7, hvv7⟩ : ∃ X, (World.setCell (World.setCell v6 ⟨w2.heap.size, 8, none⟩ (.int .i64 o.kn)) ⟨w2.heap.size, 9, none⟩ (.int .i64 o.kk)) = X := ⟨_, rfl⟩
    rw [hvv7]
    have hCv7 : Ch (fun k => k = w2.heap.size) v6 v7 := by rw [← hvv7]; exact (((Ch.refl (fun k => k = w2.heap.size) v6).setCell (p := ⟨w2.heap.size, 8, none⟩) rfl (.int .i64 o.kn)).setCell (p := ⟨w2.heap.size, 9, none⟩) rfl (.int .i64 o.kk))
    have RXv7 : Row v7 w2.heap.size [.int .i64 o.id, .int .i64 o.lv, .int .i64 r.kd, .int .i64 r.fr, .int .i64 r.un, .int .i64 r.ls, .int .i64 r.ms, .int .i64 r.ar, .int .i64 o.kn, .int .i64 o.kk, .int .i64 r.wh.op, .int .i64 r.wh.n, .slice r.wh.at' r.wh.ks.length r.wh.cap, .int .i64 o.pr.op, .int .i64 o.pr.n, .slice o.pr.at' o.pr.ks.length o.pr.cap] := by rw [← hvv7]; exact ((RXv6.setAtZ 8 (.int .i64 o.kn)).setAtZ 9 (.int .i64 o.kk))
    have ROv7 := ROv6.ch hCv7 (by omega)
    have hSv7 := HSX.out v7 ROv7
    refine hKz _ _ (fun _ => hSv7) ?_
    clear hKz Kz hS hvv7 xl x8 z8 x9 z9
    have hS := hSv7
    clear hSv7
    refine AnyJ.done (by kernel_rfl) ?_ _
    try simp only [Act.put, List.setIfInBounds_toArray, List.set_cons_zero, List.set_cons_succ]
    clear hS
    obtain ⟨w4, hw4⟩ : ∃ X, v7 = X := ⟨_, rfl⟩
    have hb4 : Below w2.heap.size w3 w4 := by
      rw [← hw4]
      have hC := ((hCv4.trans hCv5).trans hCv6).trans hCv7
      exact hC.below hbv3 (fun k hk => by omega) (by have := hbv3.size; omega)
    rw [hw4] at RXv7 ⊢
    have R_q_4 : Row w4 (w.heap.size) [.int .i64 r.id, .int .i64 r.lv, .int .i64 r.kd, .int .i64 r.fr, .int .i64 r.un, .int .i64 r.ls, .int .i64 r.ms, .int .i64 r.ar, .int .i64 r.kn, .int .i64 r.kk, .int .i64 r.wh.op, .int .i64 r.wh.n, .slice r.wh.at' r.wh.ks.length r.wh.cap, .int .i64 r.pr.op, .int .i64 r.pr.n, .slice r.pr.at' r.pr.ks.length r.pr.cap] := R_q_3.below hb4 (by omega)
    have c_q_0_4 := R_q_4.cell 0 rfl
    have c_q_1_4 := R_q_4.cell 1 rfl
    have c_q_2_4 := R_q_4.cell 2 rfl
    have c_q_3_4 := R_q_4.cell 3 rfl
    have c_q_4_4 := R_q_4.cell 4 rfl
    have c_q_5_4 := R_q_4.cell 5 rfl
    have c_q_6_4 := R_q_4.cell 6 rfl
    have c_q_7_4 := R_q_4.cell 7 rfl
    have c_q_8_4 := R_q_4.cell 8 rfl
    have c_q_9_4 := R_q_4.cell 9 rfl
    have c_q_10_4 := R_q_4.cell 10 rfl
    have c_q_11_4 := R_q_4.cell 11 rfl
    have c_q_12_4 := R_q_4.cell 12 rfl
    have c_q_13_4 := R_q_4.cell 13 rfl
    have c_q_14_4 := R_q_4.cell 14 rfl
    have c_q_15_4 := R_q_4.cell 15 rfl
    have d_q_4 := ldV_row R_q_4 rfl
    have l_q_4 := R_q_4.lt
    have R_a_4 : Row w4 (w.heap.size + 1) [.int .i64 (k), .int .i64 (fr), .int .i64 (un), .int .i64 (ps)] := R_a_3.below hb4 (by omega)
    have c_a_0_4 := R_a_4.cell 0 rfl
    have c_a_1_4 := R_a_4.cell 1 rfl
    have c_a_2_4 := R_a_4.cell 2 rfl
    have c_a_3_4 := R_a_4.cell 3 rfl
    have l_a_4 := R_a_4.lt
    have R_o_4 : Row w4 (w.heap.size + 2) [.int .i64 o.id, .int .i64 o.lv, .int .i64 o.kd, .int .i64 o.fr, .int .i64 o.un, .int .i64 o.ls, .int .i64 o.ms, .int .i64 o.ar, .int .i64 o.kn, .int .i64 o.kk, .int .i64 o.wh.op, .int .i64 o.wh.n, .slice o.wh.at' o.wh.ks.length o.wh.cap, .int .i64 o.pr.op, .int .i64 o.pr.n, .slice o.pr.at' o.pr.ks.length o.pr.cap] := R_o_3.below hb4 (by omega)
    have c_o_0_4 := R_o_4.cell 0 rfl
    have c_o_1_4 := R_o_4.cell 1 rfl
    have c_o_2_4 := R_o_4.cell 2 rfl
    have c_o_3_4 := R_o_4.cell 3 rfl
    have c_o_4_4 := R_o_4.cell 4 rfl
    have c_o_5_4 := R_o_4.cell 5 rfl
    have c_o_6_4 := R_o_4.cell 6 rfl
    have c_o_7_4 := R_o_4.cell 7 rfl
    have c_o_8_4 := R_o_4.cell 8 rfl
    have c_o_9_4 := R_o_4.cell 9 rfl
    have c_o_10_4 := R_o_4.cell 10 rfl
    have c_o_11_4 := R_o_4.cell 11 rfl
    have c_o_12_4 := R_o_4.cell 12 rfl
    have c_o_13_4 := R_o_4.cell 13 rfl
    have c_o_14_4 := R_o_4.cell 14 rfl
    have c_o_15_4 := R_o_4.cell 15 rfl
    have d_o_4 := ldV_row R_o_4 rfl
    have l_o_4 := R_o_4.lt
    have HB4 : Below w.heap.size w w4 := HB3.trans (hb4.mono (by omega))
    clear R_q_3 c_q_0_3 c_q_1_3 c_q_2_3 c_q_3_3 c_q_4_3 c_q_5_3 c_q_6_3 c_q_7_3 c_q_8_3 c_q_9_3 c_q_10_3 c_q_11_3 c_q_12_3 c_q_13_3 c_q_14_3 c_q_15_3 d_q_3 R_a_3 c_a_0_3 c_a_1_3 c_a_2_3 c_a_3_3 R_o_3 c_o_0_3 c_o_1_3 c_o_2_3 c_o_3_3 c_o_4_3 c_o_5_3 c_o_6_3 c_o_7_3 c_o_8_3 c_o_9_3 c_o_10_3 c_o_11_3 c_o_12_3 c_o_13_3 c_o_14_3 c_o_15_3 d_o_3 R_x_3 c_x_0_3 c_x_1_3 c_x_2_3 c_x_3_3 c_x_4_3 c_x_5_3 c_x_6_3 c_x_7_3 c_x_8_3 c_x_9_3 c_x_10_3 c_x_11_3 c_x_12_3 c_x_13_3 c_x_14_3 c_x_15_3 z_x_0_3 z_x_1_3 z_x_2_3 z_x_3_3 z_x_4_3 z_x_5_3 z_x_6_3 z_x_7_3 z_x_8_3 z_x_9_3 z_x_10_3 z_x_11_3 z_x_12_3 z_x_13_3 z_x_14_3 z_x_15_3 d_x_3 s_x_3 hb3 hw3
    have R_x_4 := RXv7
    have d_x_4 := ldV_row RXv7 rfl
    have l_x_4 := RXv7.lt
    clear RXv7 hCv4 hCv5 hCv6 hCv7 RXv3 RXv4 RXv5 RXv6 ROv3 ROv4 ROv5 ROv6 ROv7 hbv3 hw4 HSX
    go_wp2_with fail
    refine (rate_pq r _ (HIN.out.step HB4) p1 e1 HP1.out).mono ?_
    rintro e w5 ⟨rfl, hb5⟩
    have R_q_5 : Row w5 (w.heap.size) [.int .i64 r.id, .int .i64 r.lv, .int .i64 r.kd, .int .i64 r.fr, .int .i64 r.un, .int .i64 r.ls, .int .i64 r.ms, .int .i64 r.ar, .int .i64 r.kn, .int .i64 r.kk, .int .i64 r.wh.op, .int .i64 r.wh.n, .slice r.wh.at' r.wh.ks.length r.wh.cap, .int .i64 r.pr.op, .int .i64 r.pr.n, .slice r.pr.at' r.pr.ks.length r.pr.cap] := by (repeat' (first | (with_reducible assumption) | (with_reducible refine Row.new' _ _ _ (by first | rfl | (simp; done) | omega)) | (with_reducible refine Row.alloc ?_ _) | (with_reducible refine Row.drew ?_) | (with_reducible refine Row.drewN ?_ _) | (with_reducible refine Row.step ?_ (by with_reducible assumption)) | (with_reducible refine Row.set2' ?_ _ _; first | exact ⟨_, _, by with_reducible assumption⟩ | exact ⟨_, _, Row.alloc (by with_reducible assumption) _⟩ | exact ⟨_, _, Row.alloc (Row.alloc (by with_reducible assumption) _) _⟩) | (with_reducible refine Row.other ?_ (by first | omega | (simp; done) | (simp; omega)) _)))
    have c_q_0_5 := R_q_5.cell 0 rfl
    have c_q_1_5 := R_q_5.cell 1 rfl
    have c_q_2_5 := R_q_5.cell 2 rfl
    have c_q_3_5 := R_q_5.cell 3 rfl
    have c_q_4_5 := R_q_5.cell 4 rfl
    have c_q_5_5 := R_q_5.cell 5 rfl
    have c_q_6_5 := R_q_5.cell 6 rfl
    have c_q_7_5 := R_q_5.cell 7 rfl
    have c_q_8_5 := R_q_5.cell 8 rfl
    have c_q_9_5 := R_q_5.cell 9 rfl
    have c_q_10_5 := R_q_5.cell 10 rfl
    have c_q_11_5 := R_q_5.cell 11 rfl
    have c_q_12_5 := R_q_5.cell 12 rfl
    have c_q_13_5 := R_q_5.cell 13 rfl
    have c_q_14_5 := R_q_5.cell 14 rfl
    have c_q_15_5 := R_q_5.cell 15 rfl
    have d_q_5 := ldV_row R_q_5 rfl
    have l_q_5 := R_q_5.lt
    have R_a_5 : Row w5 (w.heap.size + 1) [.int .i64 (k), .int .i64 (fr), .int .i64 (un), .int .i64 (ps)] := by (repeat' (first | (with_reducible assumption) | (with_reducible refine Row.new' _ _ _ (by first | rfl | (simp; done) | omega)) | (with_reducible refine Row.alloc ?_ _) | (with_reducible refine Row.drew ?_) | (with_reducible refine Row.drewN ?_ _) | (with_reducible refine Row.step ?_ (by with_reducible assumption)) | (with_reducible refine Row.set2' ?_ _ _; first | exact ⟨_, _, by with_reducible assumption⟩ | exact ⟨_, _, Row.alloc (by with_reducible assumption) _⟩ | exact ⟨_, _, Row.alloc (Row.alloc (by with_reducible assumption) _) _⟩) | (with_reducible refine Row.other ?_ (by first | omega | (simp; done) | (simp; omega)) _)))
    have c_a_0_5 := R_a_5.cell 0 rfl
    have c_a_1_5 := R_a_5.cell 1 rfl
    have c_a_2_5 := R_a_5.cell 2 rfl
    have c_a_3_5 := R_a_5.cell 3 rfl
    have l_a_5 := R_a_5.lt
    have R_o_5 : Row w5 (w.heap.size + 2) [.int .i64 o.id, .int .i64 o.lv, .int .i64 o.kd, .int .i64 o.fr, .int .i64 o.un, .int .i64 o.ls, .int .i64 o.ms, .int .i64 o.ar, .int .i64 o.kn, .int .i64 o.kk, .int .i64 o.wh.op, .int .i64 o.wh.n, .slice o.wh.at' o.wh.ks.length o.wh.cap, .int .i64 o.pr.op, .int .i64 o.pr.n, .slice o.pr.at' o.pr.ks.length o.pr.cap] := by (repeat' (first | (with_reducible assumption) | (with_reducible refine Row.new' _ _ _ (by first | rfl | (simp; done) | omega)) | (with_reducible refine Row.alloc ?_ _) | (with_reducible refine Row.drew ?_) | (with_reducible refine Row.drewN ?_ _) | (with_reducible refine Row.step ?_ (by with_reducible assumption)) | (with_reducible refine Row.set2' ?_ _ _; first | exact ⟨_, _, by with_reducible assumption⟩ | exact ⟨_, _, Row.alloc (by with_reducible assumption) _⟩ | exact ⟨_, _, Row.alloc (Row.alloc (by with_reducible assumption) _) _⟩) | (with_reducible refine Row.other ?_ (by first | omega | (simp; done) | (simp; omega)) _)))
    have c_o_0_5 := R_o_5.cell 0 rfl
    have c_o_1_5 := R_o_5.cell 1 rfl
    have c_o_2_5 := R_o_5.cell 2 rfl
    have c_o_3_5 := R_o_5.cell 3 rfl
    have c_o_4_5 := R_o_5.cell 4 rfl
    have c_o_5_5 := R_o_5.cell 5 rfl
    have c_o_6_5 := R_o_5.cell 6 rfl
    have c_o_7_5 := R_o_5.cell 7 rfl
    have c_o_8_5 := R_o_5.cell 8 rfl
    have c_o_9_5 := R_o_5.cell 9 rfl
    have c_o_10_5 := R_o_5.cell 10 rfl
    have c_o_11_5 := R_o_5.cell 11 rfl
    have c_o_12_5 := R_o_5.cell 12 rfl
    have c_o_13_5 := R_o_5.cell 13 rfl
    have c_o_14_5 := R_o_5.cell 14 rfl
    have c_o_15_5 := R_o_5.cell 15 rfl
    have d_o_5 := ldV_row R_o_5 rfl
    have l_o_5 := R_o_5.lt
    have R_x_5 : Row w5 (w2.heap.size) [.int .i64 o.id, .int .i64 o.lv, .int .i64 r.kd, .int .i64 r.fr, .int .i64 r.un, .int .i64 r.ls, .int .i64 r.ms, .int .i64 r.ar, .int .i64 o.kn, .int .i64 o.kk, .int .i64 r.wh.op, .int .i64 r.wh.n, .slice r.wh.at' r.wh.ks.length r.wh.cap, .int .i64 o.pr.op, .int .i64 o.pr.n, .slice o.pr.at' o.pr.ks.length o.pr.cap] := by (repeat' (first | (with_reducible assumption) | (with_reducible refine Row.new' _ _ _ (by first | rfl | (simp; done) | omega)) | (with_reducible refine Row.alloc ?_ _) | (with_reducible refine Row.drew ?_) | (with_reducible refine Row.drewN ?_ _) | (with_reducible refine Row.step ?_ (by with_reducible assumption)) | (with_reducible refine Row.set2' ?_ _ _; first | exact ⟨_, _, by with_reducible assumption⟩ | exact ⟨_, _, Row.alloc (by with_reducible assumption) _⟩ | exact ⟨_, _, Row.alloc (Row.alloc (by with_reducible assumption) _) _⟩) | (with_reducible refine Row.other ?_ (by first | omega | (simp; done) | (simp; omega)) _)))
    have c_x_0_5 := R_x_5.cell 0 rfl
    have c_x_1_5 := R_x_5.cell 1 rfl
    have c_x_2_5 := R_x_5.cell 2 rfl
    have c_x_3_5 := R_x_5.cell 3 rfl
    have c_x_4_5 := R_x_5.cell 4 rfl
    have c_x_5_5 := R_x_5.cell 5 rfl
    have c_x_6_5 := R_x_5.cell 6 rfl
    have c_x_7_5 := R_x_5.cell 7 rfl
    have c_x_8_5 := R_x_5.cell 8 rfl
    have c_x_9_5 := R_x_5.cell 9 rfl
    have c_x_10_5 := R_x_5.cell 10 rfl
    have c_x_11_5 := R_x_5.cell 11 rfl
    have c_x_12_5 := R_x_5.cell 12 rfl
    have c_x_13_5 := R_x_5.cell 13 rfl
    have c_x_14_5 := R_x_5.cell 14 rfl
    have c_x_15_5 := R_x_5.cell 15 rfl
    have d_x_5 := ldV_row R_x_5 rfl
    have l_x_5 := R_x_5.lt
    have HB5 : Below w.heap.size w w5 := by (repeat' (first | (with_reducible exact Below.refl _ _) | (with_reducible assumption) | (with_reducible exact Bw.out (by with_reducible assumption)) | (with_reducible refine bw_alloc ?_ _) | (with_reducible refine bw_step ?_ (by with_reducible assumption)) | (with_reducible refine Below.alloc ?_ ?_ _) | (with_reducible refine Below.drew ?_) | (with_reducible refine below_drewN ?_ _) | (with_reducible refine Below.setCell ?_ ?_ _) | (with_reducible refine below_step ?_ (by with_reducible assumption) ?_) | (with_reducible exact Nat.le_refl _) | omega | (simp; omega) | (simp; done)))
    clear R_q_4 c_q_0_4 c_q_1_4 c_q_2_4 c_q_3_4 c_q_4_4 c_q_5_4 c_q_6_4 c_q_7_4 c_q_8_4 c_q_9_4 c_q_10_4 c_q_11_4 c_q_12_4 c_q_13_4 c_q_14_4 c_q_15_4 d_q_4 R_a_4 c_a_0_4 c_a_1_4 c_a_2_4 c_a_3_4 R_o_4 c_o_0_4 c_o_1_4 c_o_2_4 c_o_3_4 c_o_4_4 c_o_5_4 c_o_6_4 c_o_7_4 c_o_8_4 c_o_9_4 c_o_10_4 c_o_11_4 c_o_12_4 c_o_13_4 c_o_14_4 c_o_15_4 d_o_4 hb4 HB4
    go_wp2_with fail
    refine (rate_pq (mixR r o) _ ⟨(HIN.out.step HB5).1, (HIO.out.step HB5).2⟩ p2 e2 HP2.out).mono ?_
    rintro e w6 ⟨rfl, hb6⟩
    have R_q_6 : Row w6 (w.heap.size) [.int .i64 r.id, .int .i64 r.lv, .int .i64 r.kd, .int .i64 r.fr, .int .i64 r.un, .int .i64 r.ls, .int .i64 r.ms, .int .i64 r.ar, .int .i64 r.kn, .int .i64 r.kk, .int .i64 r.wh.op, .int .i64 r.wh.n, .slice r.wh.at' r.wh.ks.length r.wh.cap, .int .i64 r.pr.op, .int .i64 r.pr.n, .slice r.pr.at' r.pr.ks.length r.pr.cap] := by (repeat' (first | (with_reducible assumption) | (with_reducible refine Row.new' _ _ _ (by first | rfl | (simp; done) | omega)) | (with_reducible refine Row.alloc ?_ _) | (with_reducible refine Row.drew ?_) | (with_reducible refine Row.drewN ?_ _) | (with_reducible refine Row.step ?_ (by with_reducible assumption)) | (with_reducible refine Row.set2' ?_ _ _; first | exact ⟨_, _, by with_reducible assumption⟩ | exact ⟨_, _, Row.alloc (by with_reducible assumption) _⟩ | exact ⟨_, _, Row.alloc (Row.alloc (by with_reducible assumption) _) _⟩) | (with_reducible refine Row.other ?_ (by first | omega | (simp; done) | (simp; omega)) _)))
    have c_q_0_6 := R_q_6.cell 0 rfl
    have c_q_1_6 := R_q_6.cell 1 rfl
    have c_q_2_6 := R_q_6.cell 2 rfl
    have c_q_3_6 := R_q_6.cell 3 rfl
    have c_q_4_6 := R_q_6.cell 4 rfl
    have c_q_5_6 := R_q_6.cell 5 rfl
    have c_q_6_6 := R_q_6.cell 6 rfl
    have c_q_7_6 := R_q_6.cell 7 rfl
    have c_q_8_6 := R_q_6.cell 8 rfl
    have c_q_9_6 := R_q_6.cell 9 rfl
    have c_q_10_6 := R_q_6.cell 10 rfl
    have c_q_11_6 := R_q_6.cell 11 rfl
    have c_q_12_6 := R_q_6.cell 12 rfl
    have c_q_13_6 := R_q_6.cell 13 rfl
    have c_q_14_6 := R_q_6.cell 14 rfl
    have c_q_15_6 := R_q_6.cell 15 rfl
    have d_q_6 := ldV_row R_q_6 rfl
    have l_q_6 := R_q_6.lt
    have R_a_6 : Row w6 (w.heap.size + 1) [.int .i64 (k), .int .i64 (fr), .int .i64 (un), .int .i64 (ps)] := by (repeat' (first | (with_reducible assumption) | (with_reducible refine Row.new' _ _ _ (by first | rfl | (simp; done) | omega)) | (with_reducible refine Row.alloc ?_ _) | (with_reducible refine Row.drew ?_) | (with_reducible refine Row.drewN ?_ _) | (with_reducible refine Row.step ?_ (by with_reducible assumption)) | (with_reducible refine Row.set2' ?_ _ _; first | exact ⟨_, _, by with_reducible assumption⟩ | exact ⟨_, _, Row.alloc (by with_reducible assumption) _⟩ | exact ⟨_, _, Row.alloc (Row.alloc (by with_reducible assumption) _) _⟩) | (with_reducible refine Row.other ?_ (by first | omega | (simp; done) | (simp; omega)) _)))
    have c_a_0_6 := R_a_6.cell 0 rfl
    have c_a_1_6 := R_a_6.cell 1 rfl
    have c_a_2_6 := R_a_6.cell 2 rfl
    have c_a_3_6 := R_a_6.cell 3 rfl
    have l_a_6 := R_a_6.lt
    have R_o_6 : Row w6 (w.heap.size + 2) [.int .i64 o.id, .int .i64 o.lv, .int .i64 o.kd, .int .i64 o.fr, .int .i64 o.un, .int .i64 o.ls, .int .i64 o.ms, .int .i64 o.ar, .int .i64 o.kn, .int .i64 o.kk, .int .i64 o.wh.op, .int .i64 o.wh.n, .slice o.wh.at' o.wh.ks.length o.wh.cap, .int .i64 o.pr.op, .int .i64 o.pr.n, .slice o.pr.at' o.pr.ks.length o.pr.cap] := by (repeat' (first | (with_reducible assumption) | (with_reducible refine Row.new' _ _ _ (by first | rfl | (simp; done) | omega)) | (with_reducible refine Row.alloc ?_ _) | (with_reducible refine Row.drew ?_) | (with_reducible refine Row.drewN ?_ _) | (with_reducible refine Row.step ?_ (by with_reducible assumption)) | (with_reducible refine Row.set2' ?_ _ _; first | exact ⟨_, _, by with_reducible assumption⟩ | exact ⟨_, _, Row.alloc (by with_reducible assumption) _⟩ | exact ⟨_, _, Row.alloc (Row.alloc (by with_reducible assumption) _) _⟩) | (with_reducible refine Row.other ?_ (by first | omega | (simp; done) | (simp; omega)) _)))
    have c_o_0_6 := R_o_6.cell 0 rfl
    have c_o_1_6 := R_o_6.cell 1 rfl
    have c_o_2_6 := R_o_6.cell 2 rfl
    have c_o_3_6 := R_o_6.cell 3 rfl
    have c_o_4_6 := R_o_6.cell 4 rfl
    have c_o_5_6 := R_o_6.cell 5 rfl
    have c_o_6_6 := R_o_6.cell 6 rfl
    have c_o_7_6 := R_o_6.cell 7 rfl
    have c_o_8_6 := R_o_6.cell 8 rfl
    have c_o_9_6 := R_o_6.cell 9 rfl
    have c_o_10_6 := R_o_6.cell 10 rfl
    have c_o_11_6 := R_o_6.cell 11 rfl
    have c_o_12_6 := R_o_6.cell 12 rfl
    have c_o_13_6 := R_o_6.cell 13 rfl
    have c_o_14_6 := R_o_6.cell 14 rfl
    have c_o_15_6 := R_o_6.cell 15 rfl
    have d_o_6 := ldV_row R_o_6 rfl
    have l_o_6 := R_o_6.lt
    have R_x_6 : Row w6 (w2.heap.size) [.int .i64 o.id, .int .i64 o.lv, .int .i64 r.kd, .int .i64 r.fr, .int .i64 r.un, .int .i64 r.ls, .int .i64 r.ms, .int .i64 r.ar, .int .i64 o.kn, .int .i64 o.kk, .int .i64 r.wh.op, .int .i64 r.wh.n, .slice r.wh.at' r.wh.ks.length r.wh.cap, .int .i64 o.pr.op, .int .i64 o.pr.n, .slice o.pr.at' o.pr.ks.length o.pr.cap] := by (repeat' (first | (with_reducible assumption) | (with_reducible refine Row.new' _ _ _ (by first | rfl | (simp; done) | omega)) | (with_reducible refine Row.alloc ?_ _) | (with_reducible refine Row.drew ?_) | (with_reducible refine Row.drewN ?_ _) | (with_reducible refine Row.step ?_ (by with_reducible assumption)) | (with_reducible refine Row.set2' ?_ _ _; first | exact ⟨_, _, by with_reducible assumption⟩ | exact ⟨_, _, Row.alloc (by with_reducible assumption) _⟩ | exact ⟨_, _, Row.alloc (Row.alloc (by with_reducible assumption) _) _⟩) | (with_reducible refine Row.other ?_ (by first | omega | (simp; done) | (simp; omega)) _)))
    have c_x_0_6 := R_x_6.cell 0 rfl
    have c_x_1_6 := R_x_6.cell 1 rfl
    have c_x_2_6 := R_x_6.cell 2 rfl
    have c_x_3_6 := R_x_6.cell 3 rfl
    have c_x_4_6 := R_x_6.cell 4 rfl
    have c_x_5_6 := R_x_6.cell 5 rfl
    have c_x_6_6 := R_x_6.cell 6 rfl
    have c_x_7_6 := R_x_6.cell 7 rfl
    have c_x_8_6 := R_x_6.cell 8 rfl
    have c_x_9_6 := R_x_6.cell 9 rfl
    have c_x_10_6 := R_x_6.cell 10 rfl
    have c_x_11_6 := R_x_6.cell 11 rfl
    have c_x_12_6 := R_x_6.cell 12 rfl
    have c_x_13_6 := R_x_6.cell 13 rfl
    have c_x_14_6 := R_x_6.cell 14 rfl
    have c_x_15_6 := R_x_6.cell 15 rfl
    have d_x_6 := ldV_row R_x_6 rfl
    have l_x_6 := R_x_6.lt
    have HB6 : Below w.heap.size w w6 := by (repeat' (first | (with_reducible exact Below.refl _ _) | (with_reducible assumption) | (with_reducible exact Bw.out (by with_reducible assumption)) | (with_reducible refine bw_alloc ?_ _) | (with_reducible refine bw_step ?_ (by with_reducible assumption)) | (with_reducible refine Below.alloc ?_ ?_ _) | (with_reducible refine Below.drew ?_) | (with_reducible refine below_drewN ?_ _) | (with_reducible refine Below.setCell ?_ ?_ _) | (with_reducible refine below_step ?_ (by with_reducible assumption) ?_) | (with_reducible exact Nat.le_refl _) | omega | (simp; omega) | (simp; done)))
    clear R_q_5 c_q_0_5 c_q_1_5 c_q_2_5 c_q_3_5 c_q_4_5 c_q_5_5 c_q_6_5 c_q_7_5 c_q_8_5 c_q_9_5 c_q_10_5 c_q_11_5 c_q_12_5 c_q_13_5 c_q_14_5 c_q_15_5 d_q_5 R_a_5 c_a_0_5 c_a_1_5 c_a_2_5 c_a_3_5 R_o_5 c_o_0_5 c_o_1_5 c_o_2_5 c_o_3_5 c_o_4_5 c_o_5_5 c_o_6_5 c_o_7_5 c_o_8_5 c_o_9_5 c_o_10_5 c_o_11_5 c_o_12_5 c_o_13_5 c_o_14_5 c_o_15_5 d_o_5 R_x_5 c_x_0_5 c_x_1_5 c_x_2_5 c_x_3_5 c_x_4_5 c_x_5_5 c_x_6_5 c_x_7_5 c_x_8_5 c_x_9_5 c_x_10_5 c_x_11_5 c_x_12_5 c_x_13_5 c_x_14_5 c_x_15_5 d_x_5 hb5 HB5
    cases p1 with
    | false =>
      go_wp2_with fail
      go_ret
      refine ⟨(by first | rfl | exact ret_bool (by first | rfl | (simp; done) | (simp; omega))), ?_⟩
      (repeat' (first | (with_reducible exact Below.refl _ _) | (with_reducible assumption) | (with_reducible exact Bw.out (by with_reducible assumption)) | (with_reducible refine bw_alloc ?_ _) | (with_reducible refine bw_step ?_ (by with_reducible assumption)) | (with_reducible refine Below.alloc ?_ ?_ _) | (with_reducible refine Below.drew ?_) | (with_reducible refine below_drewN ?_ _) | (with_reducible refine Below.setCell ?_ ?_ _) | (with_reducible refine below_step ?_ (by with_reducible assumption) ?_) | (with_reducible exact Nat.le_refl _) | omega | (simp; omega) | (simp; done)))
    | true =>
      cases p2 with
      | false =>
        go_wp2_with fail
        go_ret
        refine ⟨(by first | rfl | exact ret_bool (by first | rfl | (simp; done) | (simp; omega))), ?_⟩
        (repeat' (first | (with_reducible exact Below.refl _ _) | (with_reducible assumption) | (with_reducible exact Bw.out (by with_reducible assumption)) | (with_reducible refine bw_alloc ?_ _) | (with_reducible refine bw_step ?_ (by with_reducible assumption)) | (with_reducible refine Below.alloc ?_ ?_ _) | (with_reducible refine Below.drew ?_) | (with_reducible refine below_drewN ?_ _) | (with_reducible refine Below.setCell ?_ ?_ _) | (with_reducible refine below_step ?_ (by with_reducible assumption) ?_) | (with_reducible exact Nat.le_refl _) | omega | (simp; omega) | (simp; done)))
      | true =>
        obtain rfl : e1 = 0 := by rw [← HP1.out.2]; exact rateE_ok HP1.out.1
        obtain rfl : e2 = 0 := by rw [← HP2.out.2]; exact rateE_ok HP2.out.1
        obtain ⟨B, E, hap⟩ : ∃ B E, applV r ⟨k, fr, un, ps⟩ nt = (B, E) := ⟨_, _, rfl⟩
        have hap2 : applV (mixR r o) ⟨k, fr, un, ps⟩ nt = (B, E) := by
          rw [← hap]
          unfold applV
          rw [HP1.out.1, HP2.out.1, mix_appl]
        have HA1 := Lib.hid hap
        have HA2 := Lib.hid hap2
        clear hap hap2
        go_wp2_with fail
        refine (Applies_any r k fr un ps nt _ (HIN.out.step HB6) B E HA1.out).mono ?_
        rintro e w7 ⟨rfl, hb7⟩
        have R_q_7 : Row w7 (w.heap.size) [.int .i64 r.id, .int .i64 r.lv, .int .i64 r.kd, .int .i64 r.fr, .int .i64 r.un, .int .i64 r.ls, .int .i64 r.ms, .int .i64 r.ar, .int .i64 r.kn, .int .i64 r.kk, .int .i64 r.wh.op, .int .i64 r.wh.n, .slice r.wh.at' r.wh.ks.length r.wh.cap, .int .i64 r.pr.op, .int .i64 r.pr.n, .slice r.pr.at' r.pr.ks.length r.pr.cap] := by (repeat' (first | (with_reducible assumption) | (with_reducible refine Row.new' _ _ _ (by first | rfl | (simp; done) | omega)) | (with_reducible refine Row.alloc ?_ _) | (with_reducible refine Row.drew ?_) | (with_reducible refine Row.drewN ?_ _) | (with_reducible refine Row.step ?_ (by with_reducible assumption)) | (with_reducible refine Row.set2' ?_ _ _; first | exact ⟨_, _, by with_reducible assumption⟩ | exact ⟨_, _, Row.alloc (by with_reducible assumption) _⟩ | exact ⟨_, _, Row.alloc (Row.alloc (by with_reducible assumption) _) _⟩) | (with_reducible refine Row.other ?_ (by first | omega | (simp; done) | (simp; omega)) _)))
        have c_q_0_7 := R_q_7.cell 0 rfl
        have c_q_1_7 := R_q_7.cell 1 rfl
        have c_q_2_7 := R_q_7.cell 2 rfl
        have c_q_3_7 := R_q_7.cell 3 rfl
        have c_q_4_7 := R_q_7.cell 4 rfl
        have c_q_5_7 := R_q_7.cell 5 rfl
        have c_q_6_7 := R_q_7.cell 6 rfl
        have c_q_7_7 := R_q_7.cell 7 rfl
        have c_q_8_7 := R_q_7.cell 8 rfl
        have c_q_9_7 := R_q_7.cell 9 rfl
        have c_q_10_7 := R_q_7.cell 10 rfl
        have c_q_11_7 := R_q_7.cell 11 rfl
        have c_q_12_7 := R_q_7.cell 12 rfl
        have c_q_13_7 := R_q_7.cell 13 rfl
        have c_q_14_7 := R_q_7.cell 14 rfl
        have c_q_15_7 := R_q_7.cell 15 rfl
        have d_q_7 := ldV_row R_q_7 rfl
        have l_q_7 := R_q_7.lt
        have R_a_7 : Row w7 (w.heap.size + 1) [.int .i64 (k), .int .i64 (fr), .int .i64 (un), .int .i64 (ps)] := by (repeat' (first | (with_reducible assumption) | (with_reducible refine Row.new' _ _ _ (by first | rfl | (simp; done) | omega)) | (with_reducible refine Row.alloc ?_ _) | (with_reducible refine Row.drew ?_) | (with_reducible refine Row.drewN ?_ _) | (with_reducible refine Row.step ?_ (by with_reducible assumption)) | (with_reducible refine Row.set2' ?_ _ _; first | exact ⟨_, _, by with_reducible assumption⟩ | exact ⟨_, _, Row.alloc (by with_reducible assumption) _⟩ | exact ⟨_, _, Row.alloc (Row.alloc (by with_reducible assumption) _) _⟩) | (with_reducible refine Row.other ?_ (by first | omega | (simp; done) | (simp; omega)) _)))
        have c_a_0_7 := R_a_7.cell 0 rfl
        have c_a_1_7 := R_a_7.cell 1 rfl
        have c_a_2_7 := R_a_7.cell 2 rfl
        have c_a_3_7 := R_a_7.cell 3 rfl
        have l_a_7 := R_a_7.lt
        have R_o_7 : Row w7 (w.heap.size + 2) [.int .i64 o.id, .int .i64 o.lv, .int .i64 o.kd, .int .i64 o.fr, .int .i64 o.un, .int .i64 o.ls, .int .i64 o.ms, .int .i64 o.ar, .int .i64 o.kn, .int .i64 o.kk, .int .i64 o.wh.op, .int .i64 o.wh.n, .slice o.wh.at' o.wh.ks.length o.wh.cap, .int .i64 o.pr.op, .int .i64 o.pr.n, .slice o.pr.at' o.pr.ks.length o.pr.cap] := by (repeat' (first | (with_reducible assumption) | (with_reducible refine Row.new' _ _ _ (by first | rfl | (simp; done) | omega)) | (with_reducible refine Row.alloc ?_ _) | (with_reducible refine Row.drew ?_) | (with_reducible refine Row.drewN ?_ _) | (with_reducible refine Row.step ?_ (by with_reducible assumption)) | (with_reducible refine Row.set2' ?_ _ _; first | exact ⟨_, _, by with_reducible assumption⟩ | exact ⟨_, _, Row.alloc (by with_reducible assumption) _⟩ | exact ⟨_, _, Row.alloc (Row.alloc (by with_reducible assumption) _) _⟩) | (with_reducible refine Row.other ?_ (by first | omega | (simp; done) | (simp; omega)) _)))
        have c_o_0_7 := R_o_7.cell 0 rfl
        have c_o_1_7 := R_o_7.cell 1 rfl
        have c_o_2_7 := R_o_7.cell 2 rfl
        have c_o_3_7 := R_o_7.cell 3 rfl
        have c_o_4_7 := R_o_7.cell 4 rfl
        have c_o_5_7 := R_o_7.cell 5 rfl
        have c_o_6_7 := R_o_7.cell 6 rfl
        have c_o_7_7 := R_o_7.cell 7 rfl
        have c_o_8_7 := R_o_7.cell 8 rfl
        have c_o_9_7 := R_o_7.cell 9 rfl
        have c_o_10_7 := R_o_7.cell 10 rfl
        have c_o_11_7 := R_o_7.cell 11 rfl
        have c_o_12_7 := R_o_7.cell 12 rfl
        have c_o_13_7 := R_o_7.cell 13 rfl
        have c_o_14_7 := R_o_7.cell 14 rfl
        have c_o_15_7 := R_o_7.cell 15 rfl
        have d_o_7 := ldV_row R_o_7 rfl
        have l_o_7 := R_o_7.lt
        have R_x_7 : Row w7 (w2.heap.size) [.int .i64 o.id, .int .i64 o.lv, .int .i64 r.kd, .int .i64 r.fr, .int .i64 r.un, .int .i64 r.ls, .int .i64 r.ms, .int .i64 r.ar, .int .i64 o.kn, .int .i64 o.kk, .int .i64 r.wh.op, .int .i64 r.wh.n, .slice r.wh.at' r.wh.ks.length r.wh.cap, .int .i64 o.pr.op, .int .i64 o.pr.n, .slice o.pr.at' o.pr.ks.length o.pr.cap] := by (repeat' (first | (with_reducible assumption) | (with_reducible refine Row.new' _ _ _ (by first | rfl | (simp; done) | omega)) | (with_reducible refine Row.alloc ?_ _) | (with_reducible refine Row.drew ?_) | (with_reducible refine Row.drewN ?_ _) | (with_reducible refine Row.step ?_ (by with_reducible assumption)) | (with_reducible refine Row.set2' ?_ _ _; first | exact ⟨_, _, by with_reducible assumption⟩ | exact ⟨_, _, Row.alloc (by with_reducible assumption) _⟩ | exact ⟨_, _, Row.alloc (Row.alloc (by with_reducible assumption) _) _⟩) | (with_reducible refine Row.other ?_ (by first | omega | (simp; done) | (simp; omega)) _)))
        have c_x_0_7 := R_x_7.cell 0 rfl
        have c_x_1_7 := R_x_7.cell 1 rfl
        have c_x_2_7 := R_x_7.cell 2 rfl
        have c_x_3_7 := R_x_7.cell 3 rfl
        have c_x_4_7 := R_x_7.cell 4 rfl
        have c_x_5_7 := R_x_7.cell 5 rfl
        have c_x_6_7 := R_x_7.cell 6 rfl
        have c_x_7_7 := R_x_7.cell 7 rfl
        have c_x_8_7 := R_x_7.cell 8 rfl
        have c_x_9_7 := R_x_7.cell 9 rfl
        have c_x_10_7 := R_x_7.cell 10 rfl
        have c_x_11_7 := R_x_7.cell 11 rfl
        have c_x_12_7 := R_x_7.cell 12 rfl
        have c_x_13_7 := R_x_7.cell 13 rfl
        have c_x_14_7 := R_x_7.cell 14 rfl
        have c_x_15_7 := R_x_7.cell 15 rfl
        have d_x_7 := ldV_row R_x_7 rfl
        have l_x_7 := R_x_7.lt
        have HB7 : Below w.heap.size w w7 := by (repeat' (first | (with_reducible exact Below.refl _ _) | (with_reducible assumption) | (with_reducible exact Bw.out (by with_reducible assumption)) | (with_reducible refine bw_alloc ?_ _) | (with_reducible refine bw_step ?_ (by with_reducible assumption)) | (with_reducible refine Below.alloc ?_ ?_ _) | (with_reducible refine Below.drew ?_) | (with_reducible refine below_drewN ?_ _) | (with_reducible refine Below.setCell ?_ ?_ _) | (with_reducible refine below_step ?_ (by with_reducible assumption) ?_) | (with_reducible exact Nat.le_refl _) | omega | (simp; omega) | (simp; done)))
        clear R_q_6 c_q_0_6 c_q_1_6 c_q_2_6 c_q_3_6 c_q_4_6 c_q_5_6 c_q_6_6 c_q_7_6 c_q_8_6 c_q_9_6 c_q_10_6 c_q_11_6 c_q_12_6 c_q_13_6 c_q_14_6 c_q_15_6 d_q_6 R_a_6 c_a_0_6 c_a_1_6 c_a_2_6 c_a_3_6 R_o_6 c_o_0_6 c_o_1_6 c_o_2_6 c_o_3_6 c_o_4_6 c_o_5_6 c_o_6_6 c_o_7_6 c_o_8_6 c_o_9_6 c_o_10_6 c_o_11_6 c_o_12_6 c_o_13_6 c_o_14_6 c_o_15_6 d_o_6 R_x_6 c_x_0_6 c_x_1_6 c_x_2_6 c_x_3_6 c_x_4_6 c_x_5_6 c_x_6_6 c_x_7_6 c_x_8_6 c_x_9_6 c_x_10_6 c_x_11_6 c_x_12_6 c_x_13_6 c_x_14_6 c_x_15_6 d_x_6 hb6 HB6
        go_wp2_with fail
        refine (Applies_any (mixR r o) k fr un ps nt _ ⟨(HIN.out.step HB7).1, (HIO.out.step HB7).2⟩ B E HA2.out).mono ?_
        rintro e w8 ⟨rfl, hb8⟩
        have R_q_8 : Row w8 (w.heap.size) [.int .i64 r.id, .int .i64 r.lv, .int .i64 r.kd, .int .i64 r.fr, .int .i64 r.un, .int .i64 r.ls, .int .i64 r.ms, .int .i64 r.ar, .int .i64 r.kn, .int .i64 r.kk, .int .i64 r.wh.op, .int .i64 r.wh.n, .slice r.wh.at' r.wh.ks.length r.wh.cap, .int .i64 r.pr.op, .int .i64 r.pr.n, .slice r.pr.at' r.pr.ks.length r.pr.cap] := by (repeat' (first | (with_reducible assumption) | (with_reducible refine Row.new' _ _ _ (by first | rfl | (simp; done) | omega)) | (with_reducible refine Row.alloc ?_ _) | (with_reducible refine Row.drew ?_) | (with_reducible refine Row.drewN ?_ _) | (with_reducible refine Row.step ?_ (by with_reducible assumption)) | (with_reducible refine Row.set2' ?_ _ _; first | exact ⟨_, _, by with_reducible assumption⟩ | exact ⟨_, _, Row.alloc (by with_reducible assumption) _⟩ | exact ⟨_, _, Row.alloc (Row.alloc (by with_reducible assumption) _) _⟩) | (with_reducible refine Row.other ?_ (by first | omega | (simp; done) | (simp; omega)) _)))
        have c_q_0_8 := R_q_8.cell 0 rfl
        have c_q_1_8 := R_q_8.cell 1 rfl
        have c_q_2_8 := R_q_8.cell 2 rfl
        have c_q_3_8 := R_q_8.cell 3 rfl
        have c_q_4_8 := R_q_8.cell 4 rfl
        have c_q_5_8 := R_q_8.cell 5 rfl
        have c_q_6_8 := R_q_8.cell 6 rfl
        have c_q_7_8 := R_q_8.cell 7 rfl
        have c_q_8_8 := R_q_8.cell 8 rfl
        have c_q_9_8 := R_q_8.cell 9 rfl
        have c_q_10_8 := R_q_8.cell 10 rfl
        have c_q_11_8 := R_q_8.cell 11 rfl
        have c_q_12_8 := R_q_8.cell 12 rfl
        have c_q_13_8 := R_q_8.cell 13 rfl
        have c_q_14_8 := R_q_8.cell 14 rfl
        have c_q_15_8 := R_q_8.cell 15 rfl
        have d_q_8 := ldV_row R_q_8 rfl
        have l_q_8 := R_q_8.lt
        have R_a_8 : Row w8 (w.heap.size + 1) [.int .i64 (k), .int .i64 (fr), .int .i64 (un), .int .i64 (ps)] := by (repeat' (first | (with_reducible assumption) | (with_reducible refine Row.new' _ _ _ (by first | rfl | (simp; done) | omega)) | (with_reducible refine Row.alloc ?_ _) | (with_reducible refine Row.drew ?_) | (with_reducible refine Row.drewN ?_ _) | (with_reducible refine Row.step ?_ (by with_reducible assumption)) | (with_reducible refine Row.set2' ?_ _ _; first | exact ⟨_, _, by with_reducible assumption⟩ | exact ⟨_, _, Row.alloc (by with_reducible assumption) _⟩ | exact ⟨_, _, Row.alloc (Row.alloc (by with_reducible assumption) _) _⟩) | (with_reducible refine Row.other ?_ (by first | omega | (simp; done) | (simp; omega)) _)))
        have c_a_0_8 := R_a_8.cell 0 rfl
        have c_a_1_8 := R_a_8.cell 1 rfl
        have c_a_2_8 := R_a_8.cell 2 rfl
        have c_a_3_8 := R_a_8.cell 3 rfl
        have l_a_8 := R_a_8.lt
        have R_o_8 : Row w8 (w.heap.size + 2) [.int .i64 o.id, .int .i64 o.lv, .int .i64 o.kd, .int .i64 o.fr, .int .i64 o.un, .int .i64 o.ls, .int .i64 o.ms, .int .i64 o.ar, .int .i64 o.kn, .int .i64 o.kk, .int .i64 o.wh.op, .int .i64 o.wh.n, .slice o.wh.at' o.wh.ks.length o.wh.cap, .int .i64 o.pr.op, .int .i64 o.pr.n, .slice o.pr.at' o.pr.ks.length o.pr.cap] := by (repeat' (first | (with_reducible assumption) | (with_reducible refine Row.new' _ _ _ (by first | rfl | (simp; done) | omega)) | (with_reducible refine Row.alloc ?_ _) | (with_reducible refine Row.drew ?_) | (with_reducible refine Row.drewN ?_ _) | (with_reducible refine Row.step ?_ (by with_reducible assumption)) | (with_reducible refine Row.set2' ?_ _ _; first | exact ⟨_, _, by with_reducible assumption⟩ | exact ⟨_, _, Row.alloc (by with_reducible assumption) _⟩ | exact ⟨_, _, Row.alloc (Row.alloc (by with_reducible assumption) _) _⟩) | (with_reducible refine Row.other ?_ (by first | omega | (simp; done) | (simp; omega)) _)))
        have c_o_0_8 := R_o_8.cell 0 rfl
        have c_o_1_8 := R_o_8.cell 1 rfl
        have c_o_2_8 := R_o_8.cell 2 rfl
        have c_o_3_8 := R_o_8.cell 3 rfl
        have c_o_4_8 := R_o_8.cell 4 rfl
        have c_o_5_8 := R_o_8.cell 5 rfl
        have c_o_6_8 := R_o_8.cell 6 rfl
        have c_o_7_8 := R_o_8.cell 7 rfl
        have c_o_8_8 := R_o_8.cell 8 rfl
        have c_o_9_8 := R_o_8.cell 9 rfl
        have c_o_10_8 := R_o_8.cell 10 rfl
        have c_o_11_8 := R_o_8.cell 11 rfl
        have c_o_12_8 := R_o_8.cell 12 rfl
        have c_o_13_8 := R_o_8.cell 13 rfl
        have c_o_14_8 := R_o_8.cell 14 rfl
        have c_o_15_8 := R_o_8.cell 15 rfl
        have d_o_8 := ldV_row R_o_8 rfl
        have l_o_8 := R_o_8.lt
        have R_x_8 : Row w8 (w2.heap.size) [.int .i64 o.id, .int .i64 o.lv, .int .i64 r.kd, .int .i64 r.fr, .int .i64 r.un, .int .i64 r.ls, .int .i64 r.ms, .int .i64 r.ar, .int .i64 o.kn, .int .i64 o.kk, .int .i64 r.wh.op, .int .i64 r.wh.n, .slice r.wh.at' r.wh.ks.length r.wh.cap, .int .i64 o.pr.op, .int .i64 o.pr.n, .slice o.pr.at' o.pr.ks.length o.pr.cap] := by (repeat' (first | (with_reducible assumption) | (with_reducible refine Row.new' _ _ _ (by first | rfl | (simp; done) | omega)) | (with_reducible refine Row.alloc ?_ _) | (with_reducible refine Row.drew ?_) | (with_reducible refine Row.drewN ?_ _) | (with_reducible refine Row.step ?_ (by with_reducible assumption)) | (with_reducible refine Row.set2' ?_ _ _; first | exact ⟨_, _, by with_reducible assumption⟩ | exact ⟨_, _, Row.alloc (by with_reducible assumption) _⟩ | exact ⟨_, _, Row.alloc (Row.alloc (by with_reducible assumption) _) _⟩) | (with_reducible refine Row.other ?_ (by first | omega | (simp; done) | (simp; omega)) _)))
        have c_x_0_8 := R_x_8.cell 0 rfl
        have c_x_1_8 := R_x_8.cell 1 rfl
        have c_x_2_8 := R_x_8.cell 2 rfl
        have c_x_3_8 := R_x_8.cell 3 rfl
        have c_x_4_8 := R_x_8.cell 4 rfl
        have c_x_5_8 := R_x_8.cell 5 rfl
        have c_x_6_8 := R_x_8.cell 6 rfl
        have c_x_7_8 := R_x_8.cell 7 rfl
        have c_x_8_8 := R_x_8.cell 8 rfl
        have c_x_9_8 := R_x_8.cell 9 rfl
        have c_x_10_8 := R_x_8.cell 10 rfl
        have c_x_11_8 := R_x_8.cell 11 rfl
        have c_x_12_8 := R_x_8.cell 12 rfl
        have c_x_13_8 := R_x_8.cell 13 rfl
        have c_x_14_8 := R_x_8.cell 14 rfl
        have c_x_15_8 := R_x_8.cell 15 rfl
        have d_x_8 := ldV_row R_x_8 rfl
        have l_x_8 := R_x_8.lt
        have HB8 : Below w.heap.size w w8 := by (repeat' (first | (with_reducible exact Below.refl _ _) | (with_reducible assumption) | (with_reducible exact Bw.out (by with_reducible assumption)) | (with_reducible refine bw_alloc ?_ _) | (with_reducible refine bw_step ?_ (by with_reducible assumption)) | (with_reducible refine Below.alloc ?_ ?_ _) | (with_reducible refine Below.drew ?_) | (with_reducible refine below_drewN ?_ _) | (with_reducible refine Below.setCell ?_ ?_ _) | (with_reducible refine below_step ?_ (by with_reducible assumption) ?_) | (with_reducible exact Nat.le_refl _) | omega | (simp; omega) | (simp; done)))
        clear R_q_7 c_q_0_7 c_q_1_7 c_q_2_7 c_q_3_7 c_q_4_7 c_q_5_7 c_q_6_7 c_q_7_7 c_q_8_7 c_q_9_7 c_q_10_7 c_q_11_7 c_q_12_7 c_q_13_7 c_q_14_7 c_q_15_7 d_q_7 R_a_7 c_a_0_7 c_a_1_7 c_a_2_7 c_a_3_7 R_o_7 c_o_0_7 c_o_1_7 c_o_2_7 c_o_3_7 c_o_4_7 c_o_5_7 c_o_6_7 c_o_7_7 c_o_8_7 c_o_9_7 c_o_10_7 c_o_11_7 c_o_12_7 c_o_13_7 c_o_14_7 c_o_15_7 d_o_7 R_x_7 c_x_0_7 c_x_1_7 c_x_2_7 c_x_3_7 c_x_4_7 c_x_5_7 c_x_6_7 c_x_7_7 c_x_8_7 c_x_9_7 c_x_10_7 c_x_11_7 c_x_12_7 c_x_13_7 c_x_14_7 c_x_15_7 d_x_7 hb7 HB7
        by_cases hE : E = 1
        · have hB : B = false := by
            have h := HA1.out
            unfold applV at h
            split at h
            · have h3 : (appl r ⟨k, fr, un, ps⟩ nt).2 ≠ 0 := by rw [h]; simp [hE]
              have h4 := appl_err h3
              rw [h] at h4
              exact h4
            · simp only [Prod.mk.injEq] at h
              exact h.1.symm
          subst hE
          subst hB
          go_wp2_with fail
          go_ret
          refine ⟨(by first | rfl | exact ret_bool (by first | rfl | (simp; done) | (simp; omega))), ?_⟩
          (repeat' (first | (with_reducible exact Below.refl _ _) | (with_reducible assumption) | (with_reducible exact Bw.out (by with_reducible assumption)) | (with_reducible refine bw_alloc ?_ _) | (with_reducible refine bw_step ?_ (by with_reducible assumption)) | (with_reducible refine Below.alloc ?_ ?_ _) | (with_reducible refine Below.drew ?_) | (with_reducible refine below_drewN ?_ _) | (with_reducible refine Below.setCell ?_ ?_ _) | (with_reducible refine below_step ?_ (by with_reducible assumption) ?_) | (with_reducible exact Nat.le_refl _) | omega | (simp; omega) | (simp; done)))
        · have hE' : (E == 1) = false := by simpa using hE
          have h := HA1.out
          unfold applV at h
          split at h
          · rename_i hin
            rw [HP1.out.1] at hin
            simp only [Bool.true_and, Bool.and_eq_true] at hin
            obtain ⟨hin1, hin2⟩ := hin
            have HAP := Lib.hid h
            have hin3 := hin2
            unfold inN at hin3
            simp only [Bool.and_eq_true, decide_eq_true_eq] at hin3
            obtain ⟨⟨a1, a2, a3, a4⟩, _, _⟩ := askB_in hin1
            simp only at a1 a2 a3 a4
            clear h hE hin1 hin2
            have hd := dayI_range fr
            obtain ⟨d, hdd⟩ : ∃ d, dayI fr = d := ⟨_, rfl⟩
            rw [hdd] at hd
            have HDD := Lib.hid hdd
            have HDE : Hid (dayE fr = 0) := by show _ = _; unfold dayE; rw [if_pos (by omega)]
            have hno : fitsR r ⟨k, fr, un, ps⟩ nt = false → B = false ∧ E = 0 := fun h => by
              have h1 := HAP.out
              unfold appl at h1
              rw [h] at h1
              simp only [Bool.false_eq_true, if_false, Prod.mk.injEq] at h1
              exact ⟨h1.1.symm, h1.2.symm⟩
            have HNO := Lib.hid hno
            obtain ⟨bb, hbb⟩ : ∃ b, bitB r.ar d = b := ⟨_, rfl⟩
            have hfit : fitsR r ⟨k, fr, un, ps⟩ nt = (decide (r.kd = k) && ((decide (r.fr ≤ nt) && decide (nt < r.un)) && ((decide (r.ls ≤ un - fr) && decide (un - fr ≤ r.ms)) && bb))) := by
              unfold fitsR
              rw [← hbb, ← hdd]
            have HFIT := Lib.hid hfit
            have hbits : (bits BinOp.and IntKind.i64 (r.ar / 2 ^ d.toNat) 1 == 1) = bb := by
              rw [and_one_i64, ← hbb]
              unfold bitB
              have := Int.emod_two_eq (r.ar / 2 ^ d.toNat)
              rcases this with e | e <;> rw [e] <;> rfl
            have har : 1 ≤ r.ar ∧ r.ar ≤ 127 := by
              have hf := (rateB_form HP1.out.1).1
              unfold formB inE at hf
              simp only [Bool.and_eq_true, decide_eq_true_eq] at hf
              omega
            obtain ⟨n1, n2⟩ := hin3
            clear hno hbb hfit hdd
            go_wp2_with fail
            refine (R_weekday_p fr d 0 HDD.out HDE.out _).mono ?_
            rintro e w9 ⟨rfl, hb9⟩
            have R_q_9 : Row w9 (w.heap.size) [.int .i64 r.id, .int .i64 r.lv, .int .i64 r.kd, .int .i64 r.fr, .int .i64 r.un, .int .i64 r.ls, .int .i64 r.ms, .int .i64 r.ar, .int .i64 r.kn, .int .i64 r.kk, .int .i64 r.wh.op, .int .i64 r.wh.n, .slice r.wh.at' r.wh.ks.length r.wh.cap, .int .i64 r.pr.op, .int .i64 r.pr.n, .slice r.pr.at' r.pr.ks.length r.pr.cap] := by (repeat' (first | (with_reducible assumption) | (with_reducible refine Row.new' _ _ _ (by first | rfl | (simp; done) | omega)) | (with_reducible refine Row.alloc ?_ _) | (with_reducible refine Row.drew ?_) | (with_reducible refine Row.drewN ?_ _) | (with_reducible refine Row.step ?_ (by with_reducible assumption)) | (with_reducible refine Row.set2' ?_ _ _; first | exact ⟨_, _, by with_reducible assumption⟩ | exact ⟨_, _, Row.alloc (by with_reducible assumption) _⟩ | exact ⟨_, _, Row.alloc (Row.alloc (by with_reducible assumption) _) _⟩) | (with_reducible refine Row.other ?_ (by first | omega | (simp; done) | (simp; omega)) _)))
            have c_q_0_9 := R_q_9.cell 0 rfl
            have c_q_1_9 := R_q_9.cell 1 rfl
            have c_q_2_9 := R_q_9.cell 2 rfl
            have c_q_3_9 := R_q_9.cell 3 rfl
            have c_q_4_9 := R_q_9.cell 4 rfl
            have c_q_5_9 := R_q_9.cell 5 rfl
            have c_q_6_9 := R_q_9.cell 6 rfl
            have c_q_7_9 := R_q_9.cell 7 rfl
            have c_q_8_9 := R_q_9.cell 8 rfl
            have c_q_9_9 := R_q_9.cell 9 rfl
            have c_q_10_9 := R_q_9.cell 10 rfl
            have c_q_11_9 := R_q_9.cell 11 rfl
            have c_q_12_9 := R_q_9.cell 12 rfl
            have c_q_13_9 := R_q_9.cell 13 rfl
            have c_q_14_9 := R_q_9.cell 14 rfl
            have c_q_15_9 := R_q_9.cell 15 rfl
            have d_q_9 := ldV_row R_q_9 rfl
            have l_q_9 := R_q_9.lt
            have R_a_9 : Row w9 (w.heap.size + 1) [.int .i64 (k), .int .i64 (fr), .int .i64 (un), .int .i64 (ps)] := by (repeat' (first | (with_reducible assumption) | (with_reducible refine Row.new' _ _ _ (by first | rfl | (simp; done) | omega)) | (with_reducible refine Row.alloc ?_ _) | (with_reducible refine Row.drew ?_) | (with_reducible refine Row.drewN ?_ _) | (with_reducible refine Row.step ?_ (by with_reducible assumption)) | (with_reducible refine Row.set2' ?_ _ _; first | exact ⟨_, _, by with_reducible assumption⟩ | exact ⟨_, _, Row.alloc (by with_reducible assumption) _⟩ | exact ⟨_, _, Row.alloc (Row.alloc (by with_reducible assumption) _) _⟩) | (with_reducible refine Row.other ?_ (by first | omega | (simp; done) | (simp; omega)) _)))
            have c_a_0_9 := R_a_9.cell 0 rfl
            have c_a_1_9 := R_a_9.cell 1 rfl
            have c_a_2_9 := R_a_9.cell 2 rfl
            have c_a_3_9 := R_a_9.cell 3 rfl
            have l_a_9 := R_a_9.lt
            have R_o_9 : Row w9 (w.heap.size + 2) [.int .i64 o.id, .int .i64 o.lv, .int .i64 o.kd, .int .i64 o.fr, .int .i64 o.un, .int .i64 o.ls, .int .i64 o.ms, .int .i64 o.ar, .int .i64 o.kn, .int .i64 o.kk, .int .i64 o.wh.op, .int .i64 o.wh.n, .slice o.wh.at' o.wh.ks.length o.wh.cap, .int .i64 o.pr.op, .int .i64 o.pr.n, .slice o.pr.at' o.pr.ks.length o.pr.cap] := by (repeat' (first | (with_reducible assumption) | (with_reducible refine Row.new' _ _ _ (by first | rfl | (simp; done) | omega)) | (with_reducible refine Row.alloc ?_ _) | (with_reducible refine Row.drew ?_) | (with_reducible refine Row.drewN ?_ _) | (with_reducible refine Row.step ?_ (by with_reducible assumption)) | (with_reducible refine Row.set2' ?_ _ _; first | exact ⟨_, _, by with_reducible assumption⟩ | exact ⟨_, _, Row.alloc (by with_reducible assumption) _⟩ | exact ⟨_, _, Row.alloc (Row.alloc (by with_reducible assumption) _) _⟩) | (with_reducible refine Row.other ?_ (by first | omega | (simp; done) | (simp; omega)) _)))
            have c_o_0_9 := R_o_9.cell 0 rfl
            have c_o_1_9 := R_o_9.cell 1 rfl
            have c_o_2_9 := R_o_9.cell 2 rfl
            have c_o_3_9 := R_o_9.cell 3 rfl
            have c_o_4_9 := R_o_9.cell 4 rfl
            have c_o_5_9 := R_o_9.cell 5 rfl
            have c_o_6_9 := R_o_9.cell 6 rfl
            have c_o_7_9 := R_o_9.cell 7 rfl
            have c_o_8_9 := R_o_9.cell 8 rfl
            have c_o_9_9 := R_o_9.cell 9 rfl
            have c_o_10_9 := R_o_9.cell 10 rfl
            have c_o_11_9 := R_o_9.cell 11 rfl
            have c_o_12_9 := R_o_9.cell 12 rfl
            have c_o_13_9 := R_o_9.cell 13 rfl
            have c_o_14_9 := R_o_9.cell 14 rfl
            have c_o_15_9 := R_o_9.cell 15 rfl
            have d_o_9 := ldV_row R_o_9 rfl
            have l_o_9 := R_o_9.lt
            have R_x_9 : Row w9 (w2.heap.size) [.int .i64 o.id, .int .i64 o.lv, .int .i64 r.kd, .int .i64 r.fr, .int .i64 r.un, .int .i64 r.ls, .int .i64 r.ms, .int .i64 r.ar, .int .i64 o.kn, .int .i64 o.kk, .int .i64 r.wh.op, .int .i64 r.wh.n, .slice r.wh.at' r.wh.ks.length r.wh.cap, .int .i64 o.pr.op, .int .i64 o.pr.n, .slice o.pr.at' o.pr.ks.length o.pr.cap] := by (repeat' (first | (with_reducible assumption) | (with_reducible refine Row.new' _ _ _ (by first | rfl | (simp; done) | omega)) | (with_reducible refine Row.alloc ?_ _) | (with_reducible refine Row.drew ?_) | (with_reducible refine Row.drewN ?_ _) | (with_reducible refine Row.step ?_ (by with_reducible assumption)) | (with_reducible refine Row.set2' ?_ _ _; first | exact ⟨_, _, by with_reducible assumption⟩ | exact ⟨_, _, Row.alloc (by with_reducible assumption) _⟩ | exact ⟨_, _, Row.alloc (Row.alloc (by with_reducible assumption) _) _⟩) | (with_reducible refine Row.other ?_ (by first | omega | (simp; done) | (simp; omega)) _)))
            have c_x_0_9 := R_x_9.cell 0 rfl
            have c_x_1_9 := R_x_9.cell 1 rfl
            have c_x_2_9 := R_x_9.cell 2 rfl
            have c_x_3_9 := R_x_9.cell 3 rfl
            have c_x_4_9 := R_x_9.cell 4 rfl
            have c_x_5_9 := R_x_9.cell 5 rfl
            have c_x_6_9 := R_x_9.cell 6 rfl
            have c_x_7_9 := R_x_9.cell 7 rfl
            have c_x_8_9 := R_x_9.cell 8 rfl
            have c_x_9_9 := R_x_9.cell 9 rfl
            have c_x_10_9 := R_x_9.cell 10 rfl
            have c_x_11_9 := R_x_9.cell 11 rfl
            have c_x_12_9 := R_x_9.cell 12 rfl
            have c_x_13_9 := R_x_9.cell 13 rfl
            have c_x_14_9 := R_x_9.cell 14 rfl
            have c_x_15_9 := R_x_9.cell 15 rfl
            have d_x_9 := ldV_row R_x_9 rfl
            have l_x_9 := R_x_9.lt
            have HB9 : Below w.heap.size w w9 := by (repeat' (first | (with_reducible exact Below.refl _ _) | (with_reducible assumption) | (with_reducible exact Bw.out (by with_reducible assumption)) | (with_reducible refine bw_alloc ?_ _) | (with_reducible refine bw_step ?_ (by with_reducible assumption)) | (with_reducible refine Below.alloc ?_ ?_ _) | (with_reducible refine Below.drew ?_) | (with_reducible refine below_drewN ?_ _) | (with_reducible refine Below.setCell ?_ ?_ _) | (with_reducible refine below_step ?_ (by with_reducible assumption) ?_) | (with_reducible exact Nat.le_refl _) | omega | (simp; omega) | (simp; done)))
            clear R_q_8 c_q_0_8 c_q_1_8 c_q_2_8 c_q_3_8 c_q_4_8 c_q_5_8 c_q_6_8 c_q_7_8 c_q_8_8 c_q_9_8 c_q_10_8 c_q_11_8 c_q_12_8 c_q_13_8 c_q_14_8 c_q_15_8 d_q_8 R_a_8 c_a_0_8 c_a_1_8 c_a_2_8 c_a_3_8 R_o_8 c_o_0_8 c_o_1_8 c_o_2_8 c_o_3_8 c_o_4_8 c_o_5_8 c_o_6_8 c_o_7_8 c_o_8_8 c_o_9_8 c_o_10_8 c_o_11_8 c_o_12_8 c_o_13_8 c_o_14_8 c_o_15_8 d_o_8 R_x_8 c_x_0_8 c_x_1_8 c_x_2_8 c_x_3_8 c_x_4_8 c_x_5_8 c_x_6_8 c_x_7_8 c_x_8_8 c_x_9_8 c_x_10_8 c_x_11_8 c_x_12_8 c_x_13_8 c_x_14_8 c_x_15_8 d_x_8 hb8 HB8
            by_cases c1 : r.kd = k
            · have c1' : (r.kd == k) = true := by simpa using c1
              by_cases c2 : r.fr ≤ nt
              · by_cases c3 : nt < r.un
                · by_cases c4 : r.ls ≤ un - fr
                  · by_cases c5 : un - fr ≤ r.ms
                    · cases bb with
                      | true =>
                        clear c1
                        go_wp2_with fail
                        go_ret
                        refine ⟨(by first | rfl | exact ret_bool (by first | rfl | (simp; done) | (simp; omega))), ?_⟩
                        (repeat' (first | (with_reducible exact Below.refl _ _) | (with_reducible assumption) | (with_reducible exact Bw.out (by with_reducible assumption)) | (with_reducible refine bw_alloc ?_ _) | (with_reducible refine bw_step ?_ (by with_reducible assumption)) | (with_reducible refine Below.alloc ?_ ?_ _) | (with_reducible refine Below.drew ?_) | (with_reducible refine below_drewN ?_ _) | (with_reducible refine Below.setCell ?_ ?_ _) | (with_reducible refine below_step ?_ (by with_reducible assumption) ?_) | (with_reducible exact Nat.le_refl _) | omega | (simp; omega) | (simp; done)))
                      | false =>
                        obtain ⟨rfl, rfl⟩ := HNO.out (by rw [HFIT.out]; simp)
                        clear c1
                        go_wp2_with fail
                        go_ret
                        refine ⟨(by first | rfl | exact ret_bool (by first | rfl | (simp; done) | (simp; omega))), ?_⟩
                        (repeat' (first | (with_reducible exact Below.refl _ _) | (with_reducible assumption) | (with_reducible exact Bw.out (by with_reducible assumption)) | (with_reducible refine bw_alloc ?_ _) | (with_reducible refine bw_step ?_ (by with_reducible assumption)) | (with_reducible refine Below.alloc ?_ ?_ _) | (with_reducible refine Below.drew ?_) | (with_reducible refine below_drewN ?_ _) | (with_reducible refine Below.setCell ?_ ?_ _) | (with_reducible refine below_step ?_ (by with_reducible assumption) ?_) | (with_reducible exact Nat.le_refl _) | omega | (simp; omega) | (simp; done)))
                    · obtain ⟨rfl, rfl⟩ := HNO.out (by rw [HFIT.out]; simp [c5])
                      clear c1
                      go_wp2_with fail
                      go_ret
                      refine ⟨(by first | rfl | exact ret_bool (by first | rfl | (simp; done) | (simp; omega))), ?_⟩
                      (repeat' (first | (with_reducible exact Below.refl _ _) | (with_reducible assumption) | (with_reducible exact Bw.out (by with_reducible assumption)) | (with_reducible refine bw_alloc ?_ _) | (with_reducible refine bw_step ?_ (by with_reducible assumption)) | (with_reducible refine Below.alloc ?_ ?_ _) | (with_reducible refine Below.drew ?_) | (with_reducible refine below_drewN ?_ _) | (with_reducible refine Below.setCell ?_ ?_ _) | (with_reducible refine below_step ?_ (by with_reducible assumption) ?_) | (with_reducible exact Nat.le_refl _) | omega | (simp; omega) | (simp; done)))
                  · obtain ⟨rfl, rfl⟩ := HNO.out (by rw [HFIT.out]; simp [c4])
                    clear c1
                    go_wp2_with fail
                    go_ret
                    refine ⟨(by first | rfl | exact ret_bool (by first | rfl | (simp; done) | (simp; omega))), ?_⟩
                    (repeat' (first | (with_reducible exact Below.refl _ _) | (with_reducible assumption) | (with_reducible exact Bw.out (by with_reducible assumption)) | (with_reducible refine bw_alloc ?_ _) | (with_reducible refine bw_step ?_ (by with_reducible assumption)) | (with_reducible refine Below.alloc ?_ ?_ _) | (with_reducible refine Below.drew ?_) | (with_reducible refine below_drewN ?_ _) | (with_reducible refine Below.setCell ?_ ?_ _) | (with_reducible refine below_step ?_ (by with_reducible assumption) ?_) | (with_reducible exact Nat.le_refl _) | omega | (simp; omega) | (simp; done)))
                · obtain ⟨rfl, rfl⟩ := HNO.out (by rw [HFIT.out]; simp [c3])
                  clear c1
                  go_wp2_with fail
                  go_ret
                  refine ⟨(by first | rfl | exact ret_bool (by first | rfl | (simp; done) | (simp; omega))), ?_⟩
                  (repeat' (first | (with_reducible exact Below.refl _ _) | (with_reducible assumption) | (with_reducible exact Bw.out (by with_reducible assumption)) | (with_reducible refine bw_alloc ?_ _) | (with_reducible refine bw_step ?_ (by with_reducible assumption)) | (with_reducible refine Below.alloc ?_ ?_ _) | (with_reducible refine Below.drew ?_) | (with_reducible refine below_drewN ?_ _) | (with_reducible refine Below.setCell ?_ ?_ _) | (with_reducible refine below_step ?_ (by with_reducible assumption) ?_) | (with_reducible exact Nat.le_refl _) | omega | (simp; omega) | (simp; done)))
              · obtain ⟨rfl, rfl⟩ := HNO.out (by rw [HFIT.out]; simp [c2])
                clear c1
                go_wp2_with fail
                go_ret
                refine ⟨(by first | rfl | exact ret_bool (by first | rfl | (simp; done) | (simp; omega))), ?_⟩
                (repeat' (first | (with_reducible exact Below.refl _ _) | (with_reducible assumption) | (with_reducible exact Bw.out (by with_reducible assumption)) | (with_reducible refine bw_alloc ?_ _) | (with_reducible refine bw_step ?_ (by with_reducible assumption)) | (with_reducible refine Below.alloc ?_ ?_ _) | (with_reducible refine Below.drew ?_) | (with_reducible refine below_drewN ?_ _) | (with_reducible refine Below.setCell ?_ ?_ _) | (with_reducible refine below_step ?_ (by with_reducible assumption) ?_) | (with_reducible exact Nat.le_refl _) | omega | (simp; omega) | (simp; done)))
            · have c1' : (r.kd == k) = false := by simpa using c1
              obtain ⟨rfl, rfl⟩ := HNO.out (by rw [HFIT.out]; simp [c1])
              clear c1
              go_wp2_with fail
              go_ret
              refine ⟨(by first | rfl | exact ret_bool (by first | rfl | (simp; done) | (simp; omega))), ?_⟩
              (repeat' (first | (with_reducible exact Below.refl _ _) | (with_reducible assumption) | (with_reducible exact Bw.out (by with_reducible assumption)) | (with_reducible refine bw_alloc ?_ _) | (with_reducible refine bw_step ?_ (by with_reducible assumption)) | (with_reducible refine Below.alloc ?_ ?_ _) | (with_reducible refine Below.drew ?_) | (with_reducible refine below_drewN ?_ _) | (with_reducible refine Below.setCell ?_ ?_ _) | (with_reducible refine below_step ?_ (by with_reducible assumption) ?_) | (with_reducible exact Nat.le_refl _) | omega | (simp; omega) | (simp; done)))
          · simp only [Prod.mk.injEq] at h
            exact (hE h.2.symm).elim

theorem applies_walk (r : RateV) (k fr un ps nt : Int) (o : RateV) (hr0 : r.Wf) (wa : I64 k ∧ I64 fr ∧ I64 un ∧ I64 ps) (wn : (Lit.int .i64 nt).wf = true) (ho0 : o.Wf) (w : World) (hr : r.In w) (ho : o.In w) :
    Calls Try.prog 8 #[r.val, .agg #[.int .i64 k, .int .i64 fr, .int .i64 un, .int .i64 ps], .int .i64 nt, o.val] w fun e w' => e = .returned (.bool true) ∧ Below w.heap.size w w' :=
  applies_walk0 r k fr un ps nt o hr0 wa wn ho0 w hr ho


set_option maxRecDepth 100000 in
theorem rateApplies_lifted (os : Os) (started : os.Started) (H : Type) (enc : TypeId × Value → H) :
    ReturnsInHanded {} Try.checked os 8 .any (Rows.rateAppliesSpec.pre6 enc Try.prog Try.f8 Rows.rateAppliesRow.domain false) (Rows.rateAppliesSpec.post enc Try.prog Try.f8 false true false false) := by
  refine returnsInHanded_of_change (C := Try.checked) own started (by kernel_rfl) Try.func8
    (ChangeSpec.witness6 (enc := enc) (C := Try.checked) false ⟨#[], #[.agg #[.int .i64 0, .int .i64 0, .int .i64 0, .int .i64 0, .int .i64 0, .int .i64 0, .int .i64 0, .int .i64 0, .int .i64 0, .int .i64 0, .int .i64 0, .int .i64 0, .slice none 0 0, .int .i64 0, .int .i64 0, .slice none 0 0], .agg #[.int .i64 0, .int .i64 0, .int .i64 0, .int .i64 0], .int .i64 0, .agg #[.int .i64 0, .int .i64 0, .int .i64 0, .int .i64 0, .int .i64 0, .int .i64 0, .int .i64 0, .int .i64 0, .int .i64 0, .int .i64 0, .int .i64 0, .int .i64 0, .slice none 0 0, .int .i64 0, .int .i64 0, .slice none 0 0]], []⟩ 8 (by kernel_rfl) (by kernel_rfl) (by kernel_rfl) (by kernel_rfl)) ?_
  intro W base args ds gs before hval0 hW _ _
  have hval : ∀ (j : Nat) t v, Try.f8.params[j]? = some t → args[j]? = some v → Value.okWide Try.prog W .any base t v := hval0
  have hW' := hW
  obtain ⟨p, q, hA0, hV, rfl, hfz, hnd⟩ := hW
  obtain ⟨rfl, rfl⟩ := trodVars_none hV
  have hA : DataW.TrodAll enc Try.prog W 0 (fun _ => true) true Try.f8.params.toList args.toList ds p := hA0
  rw [Try.params8] at hA hval
  obtain ⟨v0, vs0, d0, ds0, p0, q0, hargs, rfl, rfl, h0, r0⟩ := trodAll_cons hA
  obtain ⟨v1, vs1, d1, ds1, p1, q1, rfl, rfl, rfl, h1, r1⟩ := trodAll_cons r0
  obtain ⟨v2, vs2, d2, ds2, p2, q2, rfl, rfl, rfl, h2, r2⟩ := trodAll_cons r1
  obtain ⟨v3, vs3, d3, ds3, p3, q3, rfl, rfl, rfl, h3, r3⟩ := trodAll_cons r2
  obtain ⟨rfl, rfl, rfl⟩ := trodAll_nil r3
  obtain rfl : args = #[v0, v1, v2, v3] := by cases args; simp_all
  obtain ⟨r, rfl, hs_r, wf_r⟩ := rate_arg (hval 0 30 v0 rfl rfl) h0
  obtain ⟨a1_a, a2_a, a3_a, a4_a, rfl, wf_a⟩ := ask_arg (hval 1 49 v1 rfl rfl) h1
  obtain ⟨nt, rfl, rfl, rfl, wnt⟩ := open_int Try.underlying3 (hval 2 3 v2 rfl rfl) h2
  obtain ⟨o, rfl, hs_o, wf_o⟩ := rate_arg (hval 3 30 v3 rfl rfl) h3
  clear hA0 hval0
  refine (applies_walk r a1_a a2_a a3_a a4_a nt o wf_r wf_a wnt wf_o W hs_r hs_o).mono fun e W' ⟨he, hb⟩ => ?_
  subst he
  exact ⟨_, rfl, law_post (B := 4) laidOut (by rw [Try.params8]; simp only [List.mem_cons, List.not_mem_nil, or_false, forall_eq_or_imp, forall_eq]; first | exact readable_rateApplies | (repeat' apply And.intro) <;> first | exact of_decide_eq_true (by kernel_rfl) | kernel_rfl) rfl Try.underlying4 rfl rfl hW' hb⟩

theorem rateApplies_over : Rows.rateAppliesRow.holds Try.pinned (OpenSpec.ofChange Rows.rateAppliesSpec) :=
  OpenClaim.holds_of_wide 8 Try.f8 rfl rfl rfl rfl rfl rfl rfl ⟨rfl, rfl, rfl, rfl, rfl⟩ rfl rfl rfl rfl rfl (by kernel_rfl) Try.func8 (by kernel_rfl)
    (of_decide_eq_true (by kernel_rfl)) (by unfold Func.isWrapper; first | (rw [if_pos (by decide +kernel)]; kernel_rfl) | (rw [if_neg (by decide +kernel)]; exact ⟨rfl, rfl⟩))
    (fun os started H enc _ => rateApplies_lifted os started H enc)

theorem rateApplies_holds : Rows.RateAppliesSaid := rateApplies_over
#print axioms rateApplies_holds

end Go.Proofs.Ytcmodmchnokmgaa
