/-
  TypesRates: a rate that can be used cannot be used any more if When and Price are exchanged, or one of its numbers is replaced by one beyond its range.
  No condition: for every input (what is not few is not looked at).
-/
import Derived.Test.YtcmodmchnokmgaaTyM
import Derived.Test.YtcmodmchnokmgaaLdR
namespace Go.Proofs.Ytcmodmchnokmgaa
set_option linter.unusedSimpArgs false
set_option linter.unusedVariables false
open Go.ChangeShapes Go.WideShapes Go.ChangeAt Go.RowKit
attribute [local go_sem ↓] ld_eq st_eq
attribute [local go_sem] ldR_run ldV_drew ldV_alloc ldV_at16 stR_run sz16_rate stB_drew stB_at16 stW_at16

theorem bad0 (r : RateV) : formB { r with id := 0 } = false := by
  rw [← Bool.not_eq_true]
  intro h
  unfold formB inE at h
  simp only [Bool.and_eq_true, decide_eq_true_eq] at h
  omega
theorem bad1 (r : RateV) : formB { r with id := 1000001 } = false := by
  rw [← Bool.not_eq_true]
  intro h
  unfold formB inE at h
  simp only [Bool.and_eq_true, decide_eq_true_eq] at h
  omega
theorem bad2 (r : RateV) : formB { r with lv := -1 } = false := by
  rw [← Bool.not_eq_true]
  intro h
  unfold formB inE at h
  simp only [Bool.and_eq_true, decide_eq_true_eq] at h
  omega
theorem bad3 (r : RateV) : formB { r with lv := 101 } = false := by
  rw [← Bool.not_eq_true]
  intro h
  unfold formB inE at h
  simp only [Bool.and_eq_true, decide_eq_true_eq] at h
  omega
theorem bad4 (r : RateV) : formB { r with kd := 21 } = false := by
  rw [← Bool.not_eq_true]
  intro h
  unfold formB inE at h
  simp only [Bool.and_eq_true, decide_eq_true_eq] at h
  omega
theorem bad5 (r : RateV) : formB { r with un := r.fr } = false := by
  rw [← Bool.not_eq_true]
  intro h
  unfold formB inE at h
  simp only [Bool.and_eq_true, decide_eq_true_eq] at h
  omega
theorem bad6 (r : RateV) : formB { r with un := 367 } = false := by
  rw [← Bool.not_eq_true]
  intro h
  unfold formB inE at h
  simp only [Bool.and_eq_true, decide_eq_true_eq] at h
  omega
theorem bad7 (r : RateV) : formB { r with ls := r.ms + 1 } = false := by
  rw [← Bool.not_eq_true]
  intro h
  unfold formB inE at h
  simp only [Bool.and_eq_true, decide_eq_true_eq] at h
  omega
theorem bad8 (r : RateV) : formB { r with ms := 61 } = false := by
  rw [← Bool.not_eq_true]
  intro h
  unfold formB inE at h
  simp only [Bool.and_eq_true, decide_eq_true_eq] at h
  omega
theorem bad9 (r : RateV) : formB { r with ar := 128 } = false := by
  rw [← Bool.not_eq_true]
  intro h
  unfold formB inE at h
  simp only [Bool.and_eq_true, decide_eq_true_eq] at h
  omega
theorem bad10 (r : RateV) : formB { r with kn := r.kk + 1 } = false := by
  rw [← Bool.not_eq_true]
  intro h
  unfold formB inE at h
  simp only [Bool.and_eq_true, decide_eq_true_eq] at h
  omega
theorem bad11 (r : RateV) : formB { r with ls := 0 } = false := by
  rw [← Bool.not_eq_true]
  intro h
  unfold formB inE at h
  simp only [Bool.and_eq_true, decide_eq_true_eq] at h
  omega
theorem swap_no {r : RateV} (h : formB r = true) (ht : tyB r = true) : rateB { r with wh := r.pr, pr := r.wh } = false ∧ rateE { r with wh := r.pr, pr := r.wh } = 20 := by
  have hf : formB { r with wh := r.pr, pr := r.wh } = true := by
    unfold formB at h ⊢
    simp only [Bool.and_eq_true] at h ⊢
    exact ⟨h.1, h.2.1, h.2.2.1, h.2.2.2.1, h.2.2.2.2.1, h.2.2.2.2.2.2, h.2.2.2.2.2.1⟩
  have h2 : tyB { r with wh := r.pr, pr := r.wh } = false := by
    unfold tyB at ht ⊢
    simp only [Bool.and_eq_true, decide_eq_true_eq] at ht
    simp [ht.1, ht.2]
  obtain ⟨e1, e2⟩ := rate_ty hf
  rw [e1, e2, h2]
  exact ⟨rfl, rfl⟩
theorem rate_swap (r : RateV) (w : World) (h : r.In w) (hf : formB r = true) (ht : tyB r = true) :
    Calls Try.prog 18 #[.agg #[.int .i64 r.id, .int .i64 r.lv, .int .i64 r.kd, .int .i64 r.fr, .int .i64 r.un, .int .i64 r.ls, .int .i64 r.ms, .int .i64 r.ar, .int .i64 r.kn, .int .i64 r.kk, .int .i64 r.pr.op, .int .i64 r.pr.n, .slice r.pr.at' r.pr.ks.length r.pr.cap, .int .i64 r.wh.op, .int .i64 r.wh.n, .slice r.wh.at' r.wh.ks.length r.wh.cap]] w fun e w' => e = .returned (.tuple #[.bool false, .int .i64 20]) ∧ Below w.heap.size w w' :=
  rate_pe { r with wh := r.pr, pr := r.wh } w ⟨h.2, h.1⟩ false 20 (swap_no hf ht)
theorem rate_zero {r : RateV} (h : rateE r = 0) : formB r = true ∧ tyB r = true ∧ rateB r = true := by
  unfold rateE at h
  split at h
  · rename_i hf
    split at h
    · rename_i ht
      exact ⟨hf, ht, by unfold rateB; rw [hf, ht]; rfl⟩
    · simp at h
  · simp at h
theorem rate_nz {r : RateV} (h : rateE r ≠ 0) : rateB r = false := by
  unfold rateB
  unfold rateE at h
  cases hf : formB r with
  | false => rfl
  | true =>
    cases ht : tyB r with
    | false => rfl
    | true => simp [hf, ht] at h
theorem formB_in {r : RateV} (h : formB r = true) : (1 ≤ r.ls ∧ r.ls ≤ 60 ∧ 1 ≤ r.ms ∧ r.ms ≤ 60) ∧ 1 ≤ r.kk ∧ r.kk ≤ 1000000 := by
  unfold formB at h
  simp only [Bool.and_eq_true, decide_eq_true_eq] at h
  have hv := of_decide_eq_true h.2.2.1
  have hv2 : 1 ≤ r.kk ∧ r.kk ≤ 1000000 := ⟨hv.1, hv.2.1⟩
  refine ⟨?_, hv2⟩
  have := h.2.2.2.2.1
  omega
theorem valid_one {r : RateV} (h : rateB r = true) : validR [r] = true ∧ validR [r, r] = false := by
  unfold validR
  simp [h]

theorem mem1 {W : World} {r : RateV} (h : r.In W) : ∀ y ∈ [r], y.In W := fun y hy => by simp at hy; subst hy; exact h
theorem mem2 {W : World} {r : RateV} (h : r.In W) : ∀ y ∈ [r, r], y.In W := fun y hy => by simp at hy; subst hy; exact h
set_option maxRecDepth 100000 in
set_option maxHeartbeats 6400000 in
theorem rates_walk (r : RateV) (k : Int) (_ : r.Wf) (wk : (Lit.int .u8 k).wf = true) (w : World) (hr : r.In w) :
    Calls Try.prog 6 #[r.val, .int .u8 k] w fun e w' => e = .returned (.bool true) ∧ Below w.heap.size w w' := by
  obtain ⟨k1, k2⟩ := bd_u8 wk
  have HRI := Lib.hid hr
  obtain ⟨p2, hp⟩ : ∃ p, fewR [r] = p := ⟨_, rfl⟩
  have P2 := Lib.hid hp
  clear hp
  obtain ⟨B, hp⟩ : ∃ p, rateB r = p := ⟨_, rfl⟩
  have HB := Lib.hid hp
  clear hp
  obtain ⟨F, hp⟩ : ∃ p, rateE r = p := ⟨_, rfl⟩
  have HF := Lib.hid hp
  clear hp hr wk
  rw [show r.val = .agg #[.int .i64 r.id, .int .i64 r.lv, .int .i64 r.kd, .int .i64 r.fr, .int .i64 r.un, .int .i64 r.ls, .int .i64 r.ms, .int .i64 r.ar, .int .i64 r.kn, .int .i64 r.kk, .int .i64 r.wh.op, .int .i64 r.wh.n, .slice r.wh.at' r.wh.ks.length r.wh.cap, .int .i64 r.pr.op, .int .i64 r.pr.n, .slice r.pr.at' r.pr.ks.length r.pr.cap] from rfl]
  go_enter Try.func6, Try.ntmps6
  go_wp2_with fail
  refine (head_any _).mono ?_
  rintro e w1 ⟨rfl, hb1⟩
  have R_q_1 : Row w1 (w.heap.size) [.int .i64 r.id, .int .i64 r.lv, .int .i64 r.kd, .int .i64 r.fr, .int .i64 r.un, .int .i64 r.ls, .int .i64 r.ms, .int .i64 r.ar, .int .i64 r.kn, .int .i64 r.kk, .int .i64 r.wh.op, .int .i64 r.wh.n, .slice r.wh.at' r.wh.ks.length r.wh.cap, .int .i64 r.pr.op, .int .i64 r.pr.n, .slice r.pr.at' r.pr.ks.length r.pr.cap] := by (repeat' (first | (with_reducible assumption) | (with_reducible refine Row.new' _ _ _ (by first | rfl | (simp; done) | omega)) | (with_reducible refine Row.alloc ?_ _) | (with_reducible refine Row.drew ?_) | (with_reducible refine Row.drewN ?_ _) | (with_reducible refine Row.step ?_ (by with_reducible assumption)) | (with_reducible refine Row.set2' ?_ _ _; first | exact ⟨_, _, by with_reducible assumption⟩ | exact ⟨_, _, Row.alloc (by with_reducible assumption) _⟩ | exact ⟨_, _, Row.alloc (Row.alloc (by with_reducible assumption) _) _⟩) | (with_reducible refine Row.other ?_ (by first | omega | (simp; done) | (simp; omega)) _)))
  have c_q_0_1 := R_q_1.cell 0 rfl
  have c_q_1_1 := R_q_1.cell 1 rfl
  have c_q_2_1 := R_q_1.cell 2 rfl
  have c_q_3_1 := R_q_1.cell 3 rfl
  have c_q_4_1 := R_q_1.cell 4 rfl
  have c_q_5_1 := R_q_1.cell 5 rfl
  have c_q_6_1 := R_q_1.cell 6 rfl
  have c_q_7_1 := R_q_1.cell 7 rfl
  have c_q_8_1 := R_q_1.cell 8 rfl
  have c_q_9_1 := R_q_1.cell 9 rfl
  have c_q_10_1 := R_q_1.cell 10 rfl
  have c_q_11_1 := R_q_1.cell 11 rfl
  have c_q_12_1 := R_q_1.cell 12 rfl
  have c_q_13_1 := R_q_1.cell 13 rfl
  have c_q_14_1 := R_q_1.cell 14 rfl
  have c_q_15_1 := R_q_1.cell 15 rfl
  have d_q_1 := ldV_row R_q_1 rfl
  have l_q_1 := R_q_1.lt
  have HB1 : Below w.heap.size w w1 := by (repeat' (first | (with_reducible exact Below.refl _ _) | (with_reducible assumption) | (with_reducible exact Bw.out (by with_reducible assumption)) | (with_reducible refine bw_alloc ?_ _) | (with_reducible refine bw_step ?_ (by with_reducible assumption)) | (with_reducible refine Below.alloc ?_ ?_ _) | (with_reducible refine Below.drew ?_) | (with_reducible refine below_drewN ?_ _) | (with_reducible refine Below.setCell ?_ ?_ _) | (with_reducible refine below_step ?_ (by with_reducible assumption) ?_) | (with_reducible exact Nat.le_refl _) | omega | (simp; omega) | (simp; done)))
  go_wp2_with fail
  have HIL : Hid (SlR (w1.alloc (.cells #[.int .i64 r.id, .int .i64 r.lv, .int .i64 r.kd, .int .i64 r.fr, .int .i64 r.un, .int .i64 r.ls, .int .i64 r.ms, .int .i64 r.ar, .int .i64 r.kn, .int .i64 r.kk, .int .i64 r.wh.op, .int .i64 r.wh.n, .slice r.wh.at' r.wh.ks.length r.wh.cap, .int .i64 r.pr.op, .int .i64 r.pr.n, .slice r.pr.at' r.pr.ks.length r.pr.cap] 30)) (some ⟨w1.heap.size, 0, none⟩) 1 [r]) := slr_new [r] _ _ rfl rfl (fun y hy => by simp at hy; subst hy; exact HRI.out.step HB1) 1 rfl
  refine (few_ra [r] _ 1 1 _ (by omega) HIL.out p2 P2.out).mono ?_
  rintro e w2 ⟨rfl, hb2⟩
  have R_q_2 : Row w2 (w.heap.size) [.int .i64 r.id, .int .i64 r.lv, .int .i64 r.kd, .int .i64 r.fr, .int .i64 r.un, .int .i64 r.ls, .int .i64 r.ms, .int .i64 r.ar, .int .i64 r.kn, .int .i64 r.kk, .int .i64 r.wh.op, .int .i64 r.wh.n, .slice r.wh.at' r.wh.ks.length r.wh.cap, .int .i64 r.pr.op, .int .i64 r.pr.n, .slice r.pr.at' r.pr.ks.length r.pr.cap] := by (repeat' (first | (with_reducible assumption) | (with_reducible refine Row.new' _ _ _ (by first | rfl | (simp; done) | omega)) | (with_reducible refine Row.alloc ?_ _) | (with_reducible refine Row.drew ?_) | (with_reducible refine Row.drewN ?_ _) | (with_reducible refine Row.step ?_ (by with_reducible assumption)) | (with_reducible refine Row.set2' ?_ _ _; first | exact ⟨_, _, by with_reducible assumption⟩ | exact ⟨_, _, Row.alloc (by with_reducible assumption) _⟩ | exact ⟨_, _, Row.alloc (Row.alloc (by with_reducible assumption) _) _⟩) | (with_reducible refine Row.other ?_ (by first | omega | (simp; done) | (simp; omega)) _)))
  have c_q_0_2 := R_q_2.cell 0 rfl
  have c_q_1_2 := R_q_2.cell 1 rfl
  have c_q_2_2 := R_q_2.cell 2 rfl
  have c_q_3_2 := R_q_2.cell 3 rfl
  have c_q_4_2 := R_q_2.cell 4 rfl
  have c_q_5_2 := R_q_2.cell 5 rfl
  have c_q_6_2 := R_q_2.cell 6 rfl
  have c_q_7_2 := R_q_2.cell 7 rfl
  have c_q_8_2 := R_q_2.cell 8 rfl
  have c_q_9_2 := R_q_2.cell 9 rfl
  have c_q_10_2 := R_q_2.cell 10 rfl
  have c_q_11_2 := R_q_2.cell 11 rfl
  have c_q_12_2 := R_q_2.cell 12 rfl
  have c_q_13_2 := R_q_2.cell 13 rfl
  have c_q_14_2 := R_q_2.cell 14 rfl
  have c_q_15_2 := R_q_2.cell 15 rfl
  have d_q_2 := ldV_row R_q_2 rfl
  have l_q_2 := R_q_2.lt
  have HB2 : Below w.heap.size w w2 := by (repeat' (first | (with_reducible exact Below.refl _ _) | (with_reducible assumption) | (with_reducible exact Bw.out (by with_reducible assumption)) | (with_reducible refine bw_alloc ?_ _) | (with_reducible refine bw_step ?_ (by with_reducible assumption)) | (with_reducible refine Below.alloc ?_ ?_ _) | (with_reducible refine Below.drew ?_) | (with_reducible refine below_drewN ?_ _) | (with_reducible refine Below.setCell ?_ ?_ _) | (with_reducible refine below_step ?_ (by with_reducible assumption) ?_) | (with_reducible exact Nat.le_refl _) | omega | (simp; omega) | (simp; done)))
  clear R_q_1 c_q_0_1 c_q_1_1 c_q_2_1 c_q_3_1 c_q_4_1 c_q_5_1 c_q_6_1 c_q_7_1 c_q_8_1 c_q_9_1 c_q_10_1 c_q_11_1 c_q_12_1 c_q_13_1 c_q_14_1 c_q_15_1 d_q_1 hb1 HB1
  clear HIL
  cases p2 with
  | false =>
    go_wp2_with fail
    go_ret
    refine ⟨(by first | rfl | exact ret_bool (by first | rfl | (simp; done) | (simp; omega))), ?_⟩
    (repeat' (first | (with_reducible exact Below.refl _ _) | (with_reducible assumption) | (with_reducible exact Bw.out (by with_reducible assumption)) | (with_reducible refine bw_alloc ?_ _) | (with_reducible refine bw_step ?_ (by with_reducible assumption)) | (with_reducible refine Below.alloc ?_ ?_ _) | (with_reducible refine Below.drew ?_) | (with_reducible refine below_drewN ?_ _) | (with_reducible refine Below.setCell ?_ ?_ _) | (with_reducible refine below_step ?_ (by with_reducible assumption) ?_) | (with_reducible exact Nat.le_refl _) | omega | (simp; omega) | (simp; done)))
  | true =>
    go_wp2_with fail
    refine (rate_pe r _ (HRI.out.step HB2) B F ⟨HB.out, HF.out⟩).mono ?_
    rintro e w3 ⟨rfl, hb3⟩
    have R_q_3 : Row w3 (w.heap.size) [.int .i64 r.id, .int .i64 r.lv, .int .i64 r.kd, .int .i64 r.fr, .int .i64 r.un, .int .i64 r.ls, .int .i64 r.ms, .int .i64 r.ar, .int .i64 r.kn, .int .i64 r.kk, .int .i64 r.wh.op, .int .i64 r.wh.n, .slice r.wh.at' r.wh.ks.length r.wh.cap, .int .i64 r.pr.op, .int .i64 r.pr.n, .slice r.pr.at' r.pr.ks.length r.pr.cap] := by (repeat' (first | (with_reducible assumption) | (with_reducible refine Row.new' _ _ _ (by first | rfl | (simp; done) | omega)) | (with_reducible refine Row.alloc ?_ _) | (with_reducible refine Row.drew ?_) | (with_reducible refine Row.drewN ?_ _) | (with_reducible refine Row.step ?_ (by with_reducible assumption)) | (with_reducible refine Row.set2' ?_ _ _; first | exact ⟨_, _, by with_reducible assumption⟩ | exact ⟨_, _, Row.alloc (by with_reducible assumption) _⟩ | exact ⟨_, _, Row.alloc (Row.alloc (by with_reducible assumption) _) _⟩) | (with_reducible refine Row.other ?_ (by first | omega | (simp; done) | (simp; omega)) _)))
    have c_q_0_3 := R_q_3.cell 0 rfl
    have c_q_1_3 := R_q_3.cell 1 rfl
    have c_q_2_3 := R_q_3.cell 2 rfl
    have c_q_3_3 := R_q_3.cell 3 rfl
    have c_q_4_3 := R_q_3.cell 4 rfl
    have c_q_5_3 := R_q_3.cell 5 rfl
    have c_q_6_3 := R_q_3.cell 6 rfl
    have c_q_7_3 := R_q_3.cell 7 rfl
    have c_q_8_3 := R_q_3.cell 8 rfl
    have c_q_9_3 := R_q_3.cell 9 rfl
    have c_q_10_3 := R_q_3.cell 10 rfl
    have c_q_11_3 := R_q_3.cell 11 rfl
    have c_q_12_3 := R_q_3.cell 12 rfl
    have c_q_13_3 := R_q_3.cell 13 rfl
    have c_q_14_3 := R_q_3.cell 14 rfl
    have c_q_15_3 := R_q_3.cell 15 rfl
    have d_q_3 := ldV_row R_q_3 rfl
    have l_q_3 := R_q_3.lt
    have HB3 : Below w.heap.size w w3 := by (repeat' (first | (with_reducible exact Below.refl _ _) | (with_reducible assumption) | (with_reducible exact Bw.out (by with_reducible assumption)) | (with_reducible refine bw_alloc ?_ _) | (with_reducible refine bw_step ?_ (by with_reducible assumption)) | (with_reducible refine Below.alloc ?_ ?_ _) | (with_reducible refine Below.drew ?_) | (with_reducible refine below_drewN ?_ _) | (with_reducible refine Below.setCell ?_ ?_ _) | (with_reducible refine below_step ?_ (by with_reducible assumption) ?_) | (with_reducible exact Nat.le_refl _) | omega | (simp; omega) | (simp; done)))
    clear R_q_2 c_q_0_2 c_q_1_2 c_q_2_2 c_q_3_2 c_q_4_2 c_q_5_2 c_q_6_2 c_q_7_2 c_q_8_2 c_q_9_2 c_q_10_2 c_q_11_2 c_q_12_2 c_q_13_2 c_q_14_2 c_q_15_2 d_q_2 hb2 HB2
    by_cases hF : F = 0
    · subst hF
      obtain ⟨h1, h2, h3⟩ := rate_zero HF.out
      have hb : B = true := HB.out.symm.trans h3
      subst hb
      have HFM := Lib.hid h1
      have HTY := Lib.hid h2
      obtain ⟨hls, hkk⟩ := formB_in h1
      clear h1 h2 h3
      go_wp2_with fail
      obtain ⟨w4, hw4⟩ : ∃ x, World.alloc w3 (.cells #[.int .i64 r.id, .int .i64 r.lv, .int .i64 r.kd, .int .i64 r.fr, .int .i64 r.un, .int .i64 r.ls, .int .i64 r.ms, .int .i64 r.ar, .int .i64 r.kn, .int .i64 r.kk, .int .i64 r.wh.op, .int .i64 r.wh.n, .slice r.wh.at' r.wh.ks.length r.wh.cap, .int .i64 r.pr.op, .int .i64 r.pr.n, .slice r.pr.at' r.pr.ks.length r.pr.cap] 30) = x := ⟨_, rfl⟩
      rw [hw4]
      have hb4 : Below w3.heap.size w3 w4 := by rw [← hw4]; (repeat' (first | (with_reducible exact Below.refl _ _) | (with_reducible assumption) | (with_reducible exact Bw.out (by with_reducible assumption)) | (with_reducible refine bw_alloc ?_ _) | (with_reducible refine bw_step ?_ (by with_reducible assumption)) | (with_reducible refine Below.alloc ?_ ?_ _) | (with_reducible refine Below.drew ?_) | (with_reducible refine below_drewN ?_ _) | (with_reducible refine Below.setCell ?_ ?_ _) | (with_reducible refine below_step ?_ (by with_reducible assumption) ?_) | (with_reducible exact Nat.le_refl _) | omega | (simp; omega) | (simp; done)))
      have R_q_4 : Row w4 (w.heap.size) [.int .i64 r.id, .int .i64 r.lv, .int .i64 r.kd, .int .i64 r.fr, .int .i64 r.un, .int .i64 r.ls, .int .i64 r.ms, .int .i64 r.ar, .int .i64 r.kn, .int .i64 r.kk, .int .i64 r.wh.op, .int .i64 r.wh.n, .slice r.wh.at' r.wh.ks.length r.wh.cap, .int .i64 r.pr.op, .int .i64 r.pr.n, .slice r.pr.at' r.pr.ks.length r.pr.cap] := by rw [← hw4]; (repeat' (first | (with_reducible assumption) | (with_reducible refine Row.new' _ _ _ (by first | rfl | (simp; done) | omega)) | (with_reducible refine Row.alloc ?_ _) | (with_reducible refine Row.drew ?_) | (with_reducible refine Row.drewN ?_ _) | (with_reducible refine Row.step ?_ (by with_reducible assumption)) | (with_reducible refine Row.set2' ?_ _ _; first | exact ⟨_, _, by with_reducible assumption⟩ | exact ⟨_, _, Row.alloc (by with_reducible assumption) _⟩ | exact ⟨_, _, Row.alloc (Row.alloc (by with_reducible assumption) _) _⟩) | (with_reducible refine Row.other ?_ (by first | omega | (simp; done) | (simp; omega)) _)))
      have c_q_0_4 := R_q_4.cell 0 rfl
      have c_q_1_4 := R_q_4.cell 1 rfl
      have c_q_2_4 := R_q_4.cell 2 rfl
      have c_q_3_4 := R_q_4.cell 3 rfl
      have c_q_4_4 := R_q_4.cell 4 rfl
      have c_q_5_4 := R_q_4.cell 5 rfl
      have c_q_6_4 := R_q_4.cell 6 rfl
      have c_q_7_4 := R_q_4.cell 7 rfl
      have c_q_8_4 := R_q_4.cell 8 rfl
      have c_q_9_4 := R_q_4.cell 9 rfl
      have c_q_10_4 := R_q_4.cell 10 rfl
      have c_q_11_4 := R_q_4.cell 11 rfl
      have c_q_12_4 := R_q_4.cell 12 rfl
      have c_q_13_4 := R_q_4.cell 13 rfl
      have c_q_14_4 := R_q_4.cell 14 rfl
      have c_q_15_4 := R_q_4.cell 15 rfl
      have d_q_4 := ldV_row R_q_4 rfl
      have l_q_4 := R_q_4.lt
      have R_x_4 : Row w4 (w3.heap.size) [.int .i64 r.id, .int .i64 r.lv, .int .i64 r.kd, .int .i64 r.fr, .int .i64 r.un, .int .i64 r.ls, .int .i64 r.ms, .int .i64 r.ar, .int .i64 r.kn, .int .i64 r.kk, .int .i64 r.wh.op, .int .i64 r.wh.n, .slice r.wh.at' r.wh.ks.length r.wh.cap, .int .i64 r.pr.op, .int .i64 r.pr.n, .slice r.pr.at' r.pr.ks.length r.pr.cap] := by rw [← hw4]; (repeat' (first | (with_reducible assumption) | (with_reducible refine Row.new' _ _ _ (by first | rfl | (simp; done) | omega)) | (with_reducible refine Row.alloc ?_ _) | (with_reducible refine Row.drew ?_) | (with_reducible refine Row.drewN ?_ _) | (with_reducible refine Row.step ?_ (by with_reducible assumption)) | (with_reducible refine Row.set2' ?_ _ _; first | exact ⟨_, _, by with_reducible assumption⟩ | exact ⟨_, _, Row.alloc (by with_reducible assumption) _⟩ | exact ⟨_, _, Row.alloc (Row.alloc (by with_reducible assumption) _) _⟩) | (with_reducible refine Row.other ?_ (by first | omega | (simp; done) | (simp; omega)) _)))
      have c_x_0_4 := R_x_4.cell 0 rfl
      have c_x_1_4 := R_x_4.cell 1 rfl
      have c_x_2_4 := R_x_4.cell 2 rfl
      have c_x_3_4 := R_x_4.cell 3 rfl
      have c_x_4_4 := R_x_4.cell 4 rfl
      have c_x_5_4 := R_x_4.cell 5 rfl
      have c_x_6_4 := R_x_4.cell 6 rfl
      have c_x_7_4 := R_x_4.cell 7 rfl
      have c_x_8_4 := R_x_4.cell 8 rfl
      have c_x_9_4 := R_x_4.cell 9 rfl
      have c_x_10_4 := R_x_4.cell 10 rfl
      have c_x_11_4 := R_x_4.cell 11 rfl
      have c_x_12_4 := R_x_4.cell 12 rfl
      have c_x_13_4 := R_x_4.cell 13 rfl
      have c_x_14_4 := R_x_4.cell 14 rfl
      have c_x_15_4 := R_x_4.cell 15 rfl
      have z_x_0_4 := R_x_4.frozen 0
      have z_x_1_4 := R_x_4.frozen 1
      have z_x_2_4 := R_x_4.frozen 2
      have z_x_3_4 := R_x_4.frozen 3
      have z_x_4_4 := R_x_4.frozen 4
      have z_x_5_4 := R_x_4.frozen 5
      have z_x_6_4 := R_x_4.frozen 6
      have z_x_7_4 := R_x_4.frozen 7
      have z_x_8_4 := R_x_4.frozen 8
      have z_x_9_4 := R_x_4.frozen 9
      have z_x_10_4 := R_x_4.frozen 10
      have z_x_11_4 := R_x_4.frozen 11
      have z_x_12_4 := R_x_4.frozen 12
      have z_x_13_4 := R_x_4.frozen 13
      have z_x_14_4 := R_x_4.frozen 14
      have z_x_15_4 := R_x_4.frozen 15
      have d_x_4 := ldV_row R_x_4 rfl
      have s_x_4 := stB_row R_x_4 rfl
      have l_x_4 := R_x_4.lt
      have HB4 := HB3.trans (hb4.mono HB3.size)
      have hs4 := hb4.size
      have hz4 := HB4.size
      clear R_q_3 c_q_0_3 c_q_1_3 c_q_2_3 c_q_3_3 c_q_4_3 c_q_5_3 c_q_6_3 c_q_7_3 c_q_8_3 c_q_9_3 c_q_10_3 c_q_11_3 c_q_12_3 c_q_13_3 c_q_14_3 c_q_15_3 d_q_3 hb3 HB3
      have hlq : w.heap.size < w3.heap.size := l_q_3
      go_cut [8] from 14 to 38 (fun v wx => v = .pointer (some ⟨w3.heap.size, 0, none⟩) ∧ Row wx (w.heap.size) [.int .i64 r.id, .int .i64 r.lv, .int .i64 r.kd, .int .i64 r.fr, .int .i64 r.un, .int .i64 r.ls, .int .i64 r.ms, .int .i64 r.ar, .int .i64 r.kn, .int .i64 r.kk, .int .i64 r.wh.op, .int .i64 r.wh.n, .slice r.wh.at' r.wh.ks.length r.wh.cap, .int .i64 r.pr.op, .int .i64 r.pr.n, .slice r.pr.at' r.pr.ks.length r.pr.cap] ∧ Row wx (w3.heap.size) [.int .i64 r.id, .int .i64 r.lv, .int .i64 r.kd, .int .i64 r.fr, .int .i64 r.un, .int .i64 r.ls, .int .i64 r.ms, .int .i64 r.ar, .int .i64 r.kn, .int .i64 r.kk, .int .i64 r.pr.op, .int .i64 r.pr.n, .slice r.pr.at' r.pr.ks.length r.pr.cap, .int .i64 r.wh.op, .int .i64 r.wh.n, .slice r.wh.at' r.wh.ks.length r.wh.cap] ∧ Below w.heap.size w wx)
      case first =>
        have hS : w4.drew.cell? ⟨w.heap.size, 10, none⟩ = some (.int .i64 r.wh.op) ∧ w4.drew.cell? ⟨w.heap.size, 11, none⟩ = some (.int .i64 r.wh.n) ∧ w4.drew.cell? ⟨w.heap.size, 12, none⟩ = some (.slice r.wh.at' r.wh.ks.length r.wh.cap) ∧ w4.drew.cell? ⟨w.heap.size, 13, none⟩ = some (.int .i64 r.pr.op) ∧ w4.drew.cell? ⟨w.heap.size, 14, none⟩ = some (.int .i64 r.pr.n) ∧ w4.drew.cell? ⟨w.heap.size, 15, none⟩ = some (.slice r.pr.at' r.pr.ks.length r.pr.cap) := ⟨R_q_4.cell 10 rfl, R_q_4.cell 11 rfl, R_q_4.cell 12 rfl, R_q_4.cell 13 rfl, R_q_4.cell 14 rfl, R_q_4.cell 15 rfl⟩
        refine AnyJ.beginP (fun w' : World => w'.cell? ⟨w.heap.size, 10, none⟩ = some (.int .i64 r.wh.op) ∧ w'.cell? ⟨w.heap.size, 11, none⟩ = some (.int .i64 r.wh.n) ∧ w'.cell? ⟨w.heap.size, 12, none⟩ = some (.slice r.wh.at' r.wh.ks.length r.wh.cap) ∧ w'.cell? ⟨w.heap.size, 13, none⟩ = some (.int .i64 r.pr.op) ∧ w'.cell? ⟨w.heap.size, 14, none⟩ = some (.int .i64 r.pr.n) ∧ w'.cell? ⟨w.heap.size, 15, none⟩ = some (.slice r.pr.at' r.pr.ks.length r.pr.cap)) (fun _ => true) (by kernel_rfl) hS (fun hS => ?_)
        refine AnyJ.takeD (i := 0) (d := some 33) (v := ?_) rfl (by kernel_rfl) (by kernel_rfl) (by kernel_rfl) (by kernel_rfl) (by kernel_rfl) (fun _ _ _ h => h) (Or.inl ⟨by kernel_rfl, ?_⟩) hS ?_
        rotate_left
        · intro w' hS
          clear hS
          go_simp
          try with_reducible rfl
        refine AnyJ.takeD (i := 1) (d := some 34) (v := ?_) rfl (by kernel_rfl) (by kernel_rfl) (by kernel_rfl) (by kernel_rfl) (by kernel_rfl) (fun _ _ _ h => h) (Or.inl ⟨by kernel_rfl, ?_⟩) hS ?_
        rotate_left
        · intro w' hS
          obtain ⟨sF0, sF1, sF2, sF3, sF4, sF5⟩ := hS
          go_simp
          try with_reducible rfl
        refine AnyJ.takeD (i := 2) (d := some 35) (v := ?_) rfl (by kernel_rfl) (by kernel_rfl) (by kernel_rfl) (by kernel_rfl) (by kernel_rfl) (fun _ _ _ h => h) (Or.inl ⟨by kernel_rfl, ?_⟩) hS ?_
        rotate_left
        · intro w' hS
          clear hS
          go_simp
          try with_reducible rfl
        refine AnyJ.takeD (i := 3) (d := some 36) (v := ?_) rfl (by kernel_rfl) (by kernel_rfl) (by kernel_rfl) (by kernel_rfl) (by kernel_rfl) (fun _ _ _ h => h) (Or.inl ⟨by kernel_rfl, ?_⟩) hS ?_
        rotate_left
        · intro w' hS
          obtain ⟨sF0, sF1, sF2, sF3, sF4, sF5⟩ := hS
          go_simp
          try with_reducible rfl
        refine AnyJ.takeD (i := 4) (d := some 37) (v := ?_) rfl (by kernel_rfl) (by kernel_rfl) (by kernel_rfl) (by kernel_rfl) (by kernel_rfl) (fun _ _ _ h => h) (Or.inl ⟨by kernel_rfl, ?_⟩) hS ?_
        rotate_left
        · intro w' hS
          clear hS
          go_simp
          try with_reducible rfl
        obtain ⟨w5, hw5⟩ : ∃ x, World.drew w4 = x := ⟨_, rfl⟩
        have R_q_5 : Row w5 (w.heap.size) [.int .i64 r.id, .int .i64 r.lv, .int .i64 r.kd, .int .i64 r.fr, .int .i64 r.un, .int .i64 r.ls, .int .i64 r.ms, .int .i64 r.ar, .int .i64 r.kn, .int .i64 r.kk, .int .i64 r.wh.op, .int .i64 r.wh.n, .slice r.wh.at' r.wh.ks.length r.wh.cap, .int .i64 r.pr.op, .int .i64 r.pr.n, .slice r.pr.at' r.pr.ks.length r.pr.cap] := by rw [← hw5]; exact R_q_4.drew
        have R_x_5 : Row w5 (w3.heap.size) [.int .i64 r.id, .int .i64 r.lv, .int .i64 r.kd, .int .i64 r.fr, .int .i64 r.un, .int .i64 r.ls, .int .i64 r.ms, .int .i64 r.ar, .int .i64 r.kn, .int .i64 r.kk, .int .i64 r.wh.op, .int .i64 r.wh.n, .slice r.wh.at' r.wh.ks.length r.wh.cap, .int .i64 r.pr.op, .int .i64 r.pr.n, .slice r.pr.at' r.pr.ks.length r.pr.cap] := by rw [← hw5]; exact R_x_4.drew
        have HB5 : Below w.heap.size w w5 := by rw [← hw5]; exact HB4.drew
        rw [hw5] at hS ⊢
        clear hw5
        have y10 := R_x_5.cell 10 rfl
        have z10 := R_x_5.frozen 10
        have y11 := R_x_5.cell 11 rfl
        have z11 := R_x_5.frozen 11
        have y12 := R_x_5.cell 12 rfl
        have z12 := R_x_5.frozen 12
        have y13 := R_x_5.cell 13 rfl
        have z13 := R_x_5.frozen 13
        have y14 := R_x_5.cell 14 rfl
        have z14 := R_x_5.frozen 14
        have y15 := R_x_5.cell 15 rfl
        have z15 := R_x_5.frozen 15
        have yl := R_x_5.lt
        refine AnyJ.one (i := 5) (by kernel_rfl) rfl (fun Kz hKz => ?_)
        go_simp
        have hP : Row (Go.Proofs.Ytcmodmchnokmgaa.puts w5 w3.heap.size 10 [.int .i64 r.pr.op, .int .i64 r.pr.n, .slice r.pr.at' r.pr.ks.length r.pr.cap]) w3.heap.size [.int .i64 r.id, .int .i64 r.lv, .int .i64 r.kd, .int .i64 r.fr, .int .i64 r.un, .int .i64 r.ls, .int .i64 r.ms, .int .i64 r.ar, .int .i64 r.kn, .int .i64 r.kk, .int .i64 r.pr.op, .int .i64 r.pr.n, .slice r.pr.at' r.pr.ks.length r.pr.cap, .int .i64 r.pr.op, .int .i64 r.pr.n, .slice r.pr.at' r.pr.ks.length r.pr.cap] := Row.puts [.int .i64 r.pr.op, .int .i64 r.pr.n, .slice r.pr.at' r.pr.ks.length r.pr.cap] 10 R_x_5 (by simp)
        have hC : Ch (fun k => k = w3.heap.size) w5 (Go.Proofs.Ytcmodmchnokmgaa.puts w5 w3.heap.size 10 [.int .i64 r.pr.op, .int .i64 r.pr.n, .slice r.pr.at' r.pr.ks.length r.pr.cap]) := Ch.puts _ _ (Ch.refl _ _)
        simp only [Go.Proofs.Ytcmodmchnokmgaa.puts, Nat.reduceAdd] at hP hC
        obtain ⟨w6, hw⟩ : ∃ x, (World.setCell (World.setCell (World.setCell w5 ⟨w3.heap.size, 10, none⟩ (.int .i64 r.pr.op)) ⟨w3.heap.size, 11, none⟩ (.int .i64 r.pr.n)) ⟨w3.heap.size, 12, none⟩ (.slice r.pr.at' r.pr.ks.length r.pr.cap)) = x := ⟨_, rfl⟩
        rw [hw] at hP hC ⊢
        have R_q_6 : Row w6 (w.heap.size) [.int .i64 r.id, .int .i64 r.lv, .int .i64 r.kd, .int .i64 r.fr, .int .i64 r.un, .int .i64 r.ls, .int .i64 r.ms, .int .i64 r.ar, .int .i64 r.kn, .int .i64 r.kk, .int .i64 r.wh.op, .int .i64 r.wh.n, .slice r.wh.at' r.wh.ks.length r.wh.cap, .int .i64 r.pr.op, .int .i64 r.pr.n, .slice r.pr.at' r.pr.ks.length r.pr.cap] := R_q_5.ch hC (by omega)
        have R_x_6 : Row w6 (w3.heap.size) [.int .i64 r.id, .int .i64 r.lv, .int .i64 r.kd, .int .i64 r.fr, .int .i64 r.un, .int .i64 r.ls, .int .i64 r.ms, .int .i64 r.ar, .int .i64 r.kn, .int .i64 r.kk, .int .i64 r.pr.op, .int .i64 r.pr.n, .slice r.pr.at' r.pr.ks.length r.pr.cap, .int .i64 r.pr.op, .int .i64 r.pr.n, .slice r.pr.at' r.pr.ks.length r.pr.cap] := hP
        have HB6 : Below w.heap.size w w6 := hC.below HB5 (fun k hk => by omega) HB5.size
        refine hKz _ _ (fun _ => ⟨R_q_6.cell 10 rfl, R_q_6.cell 11 rfl, R_q_6.cell 12 rfl, R_q_6.cell 13 rfl, R_q_6.cell 14 rfl, R_q_6.cell 15 rfl⟩) ?_
        clear hKz Kz hw hP hC
        clear y10 z10 y11 z11 y12 z12 y13 z13 y14 z14 y15 z15 yl
        clear hS
        have hS : w6.cell? ⟨w.heap.size, 10, none⟩ = some (.int .i64 r.wh.op) ∧ w6.cell? ⟨w.heap.size, 11, none⟩ = some (.int .i64 r.wh.n) ∧ w6.cell? ⟨w.heap.size, 12, none⟩ = some (.slice r.wh.at' r.wh.ks.length r.wh.cap) ∧ w6.cell? ⟨w.heap.size, 13, none⟩ = some (.int .i64 r.pr.op) ∧ w6.cell? ⟨w.heap.size, 14, none⟩ = some (.int .i64 r.pr.n) ∧ w6.cell? ⟨w.heap.size, 15, none⟩ = some (.slice r.pr.at' r.pr.ks.length r.pr.cap) := ⟨R_q_6.cell 10 rfl, R_q_6.cell 11 rfl, R_q_6.cell 12 rfl, R_q_6.cell 13 rfl, R_q_6.cell 14 rfl, R_q_6.cell 15 rfl⟩
        refine AnyJ.takeD (i := 6) (d := some 38) (v := ?_) rfl (by kernel_rfl) (by kernel_rfl) (by kernel_rfl) (by kernel_rfl) (by kernel_rfl) (fun _ _ _ h => h) (Or.inl ⟨by kernel_rfl, ?_⟩) hS ?_
        rotate_left
        · intro w' hS
          clear hS
          go_simp
          try with_reducible rfl
        have y10 := R_x_6.cell 10 rfl
        have z10 := R_x_6.frozen 10
        have y11 := R_x_6.cell 11 rfl
        have z11 := R_x_6.frozen 11
        have y12 := R_x_6.cell 12 rfl
        have z12 := R_x_6.frozen 12
        have y13 := R_x_6.cell 13 rfl
        have z13 := R_x_6.frozen 13
        have y14 := R_x_6.cell 14 rfl
        have z14 := R_x_6.frozen 14
        have y15 := R_x_6.cell 15 rfl
        have z15 := R_x_6.frozen 15
        have yl := R_x_6.lt
        refine AnyJ.one (i := 7) (by kernel_rfl) rfl (fun Kz hKz => ?_)
        go_simp
        have hP : Row (Go.Proofs.Ytcmodmchnokmgaa.puts w6 w3.heap.size 13 [.int .i64 r.wh.op, .int .i64 r.wh.n, .slice r.wh.at' r.wh.ks.length r.wh.cap]) w3.heap.size [.int .i64 r.id, .int .i64 r.lv, .int .i64 r.kd, .int .i64 r.fr, .int .i64 r.un, .int .i64 r.ls, .int .i64 r.ms, .int .i64 r.ar, .int .i64 r.kn, .int .i64 r.kk, .int .i64 r.pr.op, .int .i64 r.pr.n, .slice r.pr.at' r.pr.ks.length r.pr.cap, .int .i64 r.wh.op, .int .i64 r.wh.n, .slice r.wh.at' r.wh.ks.length r.wh.cap] := Row.puts [.int .i64 r.wh.op, .int .i64 r.wh.n, .slice r.wh.at' r.wh.ks.length r.wh.cap] 13 R_x_6 (by simp)
        have hC : Ch (fun k => k = w3.heap.size) w6 (Go.Proofs.Ytcmodmchnokmgaa.puts w6 w3.heap.size 13 [.int .i64 r.wh.op, .int .i64 r.wh.n, .slice r.wh.at' r.wh.ks.length r.wh.cap]) := Ch.puts _ _ (Ch.refl _ _)
        simp only [Go.Proofs.Ytcmodmchnokmgaa.puts, Nat.reduceAdd] at hP hC
        obtain ⟨w7, hw⟩ : ∃ x, (World.setCell (World.setCell (World.setCell w6 ⟨w3.heap.size, 13, none⟩ (.int .i64 r.wh.op)) ⟨w3.heap.size, 14, none⟩ (.int .i64 r.wh.n)) ⟨w3.heap.size, 15, none⟩ (.slice r.wh.at' r.wh.ks.length r.wh.cap)) = x := ⟨_, rfl⟩
        rw [hw] at hP hC ⊢
        have R_q_7 : Row w7 (w.heap.size) [.int .i64 r.id, .int .i64 r.lv, .int .i64 r.kd, .int .i64 r.fr, .int .i64 r.un, .int .i64 r.ls, .int .i64 r.ms, .int .i64 r.ar, .int .i64 r.kn, .int .i64 r.kk, .int .i64 r.wh.op, .int .i64 r.wh.n, .slice r.wh.at' r.wh.ks.length r.wh.cap, .int .i64 r.pr.op, .int .i64 r.pr.n, .slice r.pr.at' r.pr.ks.length r.pr.cap] := R_q_6.ch hC (by omega)
        have R_x_7 : Row w7 (w3.heap.size) [.int .i64 r.id, .int .i64 r.lv, .int .i64 r.kd, .int .i64 r.fr, .int .i64 r.un, .int .i64 r.ls, .int .i64 r.ms, .int .i64 r.ar, .int .i64 r.kn, .int .i64 r.kk, .int .i64 r.pr.op, .int .i64 r.pr.n, .slice r.pr.at' r.pr.ks.length r.pr.cap, .int .i64 r.wh.op, .int .i64 r.wh.n, .slice r.wh.at' r.wh.ks.length r.wh.cap] := hP
        have HB7 : Below w.heap.size w w7 := hC.below HB6 (fun k hk => by omega) HB6.size
        refine hKz _ _ (fun _ => ⟨R_q_7.cell 10 rfl, R_q_7.cell 11 rfl, R_q_7.cell 12 rfl, R_q_7.cell 13 rfl, R_q_7.cell 14 rfl, R_q_7.cell 15 rfl⟩) ?_
        clear hKz Kz hw hP hC
        clear y10 z10 y11 z11 y12 z12 y13 z13 y14 z14 y15 z15 yl
        refine AnyJ.done (by kernel_rfl) ?_ _
        try simp only [Act.put, List.setIfInBounds_toArray, List.set_cons_zero, List.set_cons_succ]
        go_wp2_with fail
        go_meet
        exact ⟨rfl, R_q_7, R_x_7, HB7⟩
      case' rest =>
        obtain ⟨rfl, R_q_7, R_x_7, HB7⟩ := hcut
        obtain ⟨w7, hw7⟩ : ∃ wd, wd = wc := ⟨_, rfl⟩
        subst hw7
        obtain ⟨w8, hw8⟩ : ∃ x, w7 = x := ⟨_, rfl⟩
        rw [hw8]
        have hb8 : Below w7.heap.size w7 w8 := by rw [← hw8]; (repeat' (first | (with_reducible exact Below.refl _ _) | (with_reducible assumption) | (with_reducible exact Bw.out (by with_reducible assumption)) | (with_reducible refine bw_alloc ?_ _) | (with_reducible refine bw_step ?_ (by with_reducible assumption)) | (with_reducible refine Below.alloc ?_ ?_ _) | (with_reducible refine Below.drew ?_) | (with_reducible refine below_drewN ?_ _) | (with_reducible refine Below.setCell ?_ ?_ _) | (with_reducible refine below_step ?_ (by with_reducible assumption) ?_) | (with_reducible exact Nat.le_refl _) | omega | (simp; omega) | (simp; done)))
        have R_q_8 : Row w8 (w.heap.size) [.int .i64 r.id, .int .i64 r.lv, .int .i64 r.kd, .int .i64 r.fr, .int .i64 r.un, .int .i64 r.ls, .int .i64 r.ms, .int .i64 r.ar, .int .i64 r.kn, .int .i64 r.kk, .int .i64 r.wh.op, .int .i64 r.wh.n, .slice r.wh.at' r.wh.ks.length r.wh.cap, .int .i64 r.pr.op, .int .i64 r.pr.n, .slice r.pr.at' r.pr.ks.length r.pr.cap] := by rw [← hw8]; (repeat' (first | (with_reducible assumption) | (with_reducible refine Row.new' _ _ _ (by first | rfl | (simp; done) | omega)) | (with_reducible refine Row.alloc ?_ _) | (with_reducible refine Row.drew ?_) | (with_reducible refine Row.drewN ?_ _) | (with_reducible refine Row.step ?_ (by with_reducible assumption)) | (with_reducible refine Row.set2' ?_ _ _; first | exact ⟨_, _, by with_reducible assumption⟩ | exact ⟨_, _, Row.alloc (by with_reducible assumption) _⟩ | exact ⟨_, _, Row.alloc (Row.alloc (by with_reducible assumption) _) _⟩) | (with_reducible refine Row.other ?_ (by first | omega | (simp; done) | (simp; omega)) _)))
        have c_q_0_8 := R_q_8.cell 0 rfl
        have c_q_1_8 := R_q_8.cell 1 rfl
        have c_q_2_8 := R_q_8.cell 2 rfl
        have c_q_3_8 := R_q_8.cell 3 rfl
        have c_q_4_8 := R_q_8.cell 4 rfl
        have c_q_5_8 := R_q_8.cell 5 rfl
        have c_q_6_8 := R_q_8.cell 6 rfl
        have c_q_7_8 := R_q_8.cell 7 rfl
        have c_q_8_8 := R_q_8.cell 8 rfl
        have c_q_9_8 := R_q_8.cell 9 rfl
        have c_q_10_8 := R_q_8.cell 10 rfl
        have c_q_11_8 := R_q_8.cell 11 rfl
        have c_q_12_8 := R_q_8.cell 12 rfl
        have c_q_13_8 := R_q_8.cell 13 rfl
        have c_q_14_8 := R_q_8.cell 14 rfl
        have c_q_15_8 := R_q_8.cell 15 rfl
        have d_q_8 := ldV_row R_q_8 rfl
        have l_q_8 := R_q_8.lt
        have R_x_8 : Row w8 (w3.heap.size) [.int .i64 r.id, .int .i64 r.lv, .int .i64 r.kd, .int .i64 r.fr, .int .i64 r.un, .int .i64 r.ls, .int .i64 r.ms, .int .i64 r.ar, .int .i64 r.kn, .int .i64 r.kk, .int .i64 r.pr.op, .int .i64 r.pr.n, .slice r.pr.at' r.pr.ks.length r.pr.cap, .int .i64 r.wh.op, .int .i64 r.wh.n, .slice r.wh.at' r.wh.ks.length r.wh.cap] := by rw [← hw8]; (repeat' (first | (with_reducible assumption) | (with_reducible refine Row.new' _ _ _ (by first | rfl | (simp; done) | omega)) | (with_reducible refine Row.alloc ?_ _) | (with_reducible refine Row.drew ?_) | (with_reducible refine Row.drewN ?_ _) | (with_reducible refine Row.step ?_ (by with_reducible assumption)) | (with_reducible refine Row.set2' ?_ _ _; first | exact ⟨_, _, by with_reducible assumption⟩ | exact ⟨_, _, Row.alloc (by with_reducible assumption) _⟩ | exact ⟨_, _, Row.alloc (Row.alloc (by with_reducible assumption) _) _⟩) | (with_reducible refine Row.other ?_ (by first | omega | (simp; done) | (simp; omega)) _)))
        have c_x_0_8 := R_x_8.cell 0 rfl
        have c_x_1_8 := R_x_8.cell 1 rfl
        have c_x_2_8 := R_x_8.cell 2 rfl
        have c_x_3_8 := R_x_8.cell 3 rfl
        have c_x_4_8 := R_x_8.cell 4 rfl
        have c_x_5_8 := R_x_8.cell 5 rfl
        have c_x_6_8 := R_x_8.cell 6 rfl
        have c_x_7_8 := R_x_8.cell 7 rfl
        have c_x_8_8 := R_x_8.cell 8 rfl
        have c_x_9_8 := R_x_8.cell 9 rfl
        have c_x_10_8 := R_x_8.cell 10 rfl
        have c_x_11_8 := R_x_8.cell 11 rfl
        have c_x_12_8 := R_x_8.cell 12 rfl
        have c_x_13_8 := R_x_8.cell 13 rfl
        have c_x_14_8 := R_x_8.cell 14 rfl
        have c_x_15_8 := R_x_8.cell 15 rfl
        have d_x_8 := ldV_row R_x_8 rfl
        have l_x_8 := R_x_8.lt
        have HB8 := HB7.trans (hb8.mono HB7.size)
        have hs8 := hb8.size
        have hz8 := HB8.size
        go_wp2_with fail
        refine (rate_swap r _ (HRI.out.step HB8) HFM.out HTY.out).mono ?_
        rintro e w9 ⟨rfl, hb9⟩
        have R_q_9 : Row w9 (w.heap.size) [.int .i64 r.id, .int .i64 r.lv, .int .i64 r.kd, .int .i64 r.fr, .int .i64 r.un, .int .i64 r.ls, .int .i64 r.ms, .int .i64 r.ar, .int .i64 r.kn, .int .i64 r.kk, .int .i64 r.wh.op, .int .i64 r.wh.n, .slice r.wh.at' r.wh.ks.length r.wh.cap, .int .i64 r.pr.op, .int .i64 r.pr.n, .slice r.pr.at' r.pr.ks.length r.pr.cap] := by (repeat' (first | (with_reducible assumption) | (with_reducible refine Row.new' _ _ _ (by first | rfl | (simp; done) | omega)) | (with_reducible refine Row.alloc ?_ _) | (with_reducible refine Row.drew ?_) | (with_reducible refine Row.drewN ?_ _) | (with_reducible refine Row.step ?_ (by with_reducible assumption)) | (with_reducible refine Row.set2' ?_ _ _; first | exact ⟨_, _, by with_reducible assumption⟩ | exact ⟨_, _, Row.alloc (by with_reducible assumption) _⟩ | exact ⟨_, _, Row.alloc (Row.alloc (by with_reducible assumption) _) _⟩) | (with_reducible refine Row.other ?_ (by first | omega | (simp; done) | (simp; omega)) _)))
        have c_q_0_9 := R_q_9.cell 0 rfl
        have c_q_1_9 := R_q_9.cell 1 rfl
        have c_q_2_9 := R_q_9.cell 2 rfl
        have c_q_3_9 := R_q_9.cell 3 rfl
        have c_q_4_9 := R_q_9.cell 4 rfl
        have c_q_5_9 := R_q_9.cell 5 rfl
        have c_q_6_9 := R_q_9.cell 6 rfl
        have c_q_7_9 := R_q_9.cell 7 rfl
        have c_q_8_9 := R_q_9.cell 8 rfl
        have c_q_9_9 := R_q_9.cell 9 rfl
        have c_q_10_9 := R_q_9.cell 10 rfl
        have c_q_11_9 := R_q_9.cell 11 rfl
        have c_q_12_9 := R_q_9.cell 12 rfl
        have c_q_13_9 := R_q_9.cell 13 rfl
        have c_q_14_9 := R_q_9.cell 14 rfl
        have c_q_15_9 := R_q_9.cell 15 rfl
        have d_q_9 := ldV_row R_q_9 rfl
        have l_q_9 := R_q_9.lt
        have R_x_9 : Row w9 (w3.heap.size) [.int .i64 r.id, .int .i64 r.lv, .int .i64 r.kd, .int .i64 r.fr, .int .i64 r.un, .int .i64 r.ls, .int .i64 r.ms, .int .i64 r.ar, .int .i64 r.kn, .int .i64 r.kk, .int .i64 r.pr.op, .int .i64 r.pr.n, .slice r.pr.at' r.pr.ks.length r.pr.cap, .int .i64 r.wh.op, .int .i64 r.wh.n, .slice r.wh.at' r.wh.ks.length r.wh.cap] := by (repeat' (first | (with_reducible assumption) | (with_reducible refine Row.new' _ _ _ (by first | rfl | (simp; done) | omega)) | (with_reducible refine Row.alloc ?_ _) | (with_reducible refine Row.drew ?_) | (with_reducible refine Row.drewN ?_ _) | (with_reducible refine Row.step ?_ (by with_reducible assumption)) | (with_reducible refine Row.set2' ?_ _ _; first | exact ⟨_, _, by with_reducible assumption⟩ | exact ⟨_, _, Row.alloc (by with_reducible assumption) _⟩ | exact ⟨_, _, Row.alloc (Row.alloc (by with_reducible assumption) _) _⟩) | (with_reducible refine Row.other ?_ (by first | omega | (simp; done) | (simp; omega)) _)))
        have c_x_0_9 := R_x_9.cell 0 rfl
        have c_x_1_9 := R_x_9.cell 1 rfl
        have c_x_2_9 := R_x_9.cell 2 rfl
        have c_x_3_9 := R_x_9.cell 3 rfl
        have c_x_4_9 := R_x_9.cell 4 rfl
        have c_x_5_9 := R_x_9.cell 5 rfl
        have c_x_6_9 := R_x_9.cell 6 rfl
        have c_x_7_9 := R_x_9.cell 7 rfl
        have c_x_8_9 := R_x_9.cell 8 rfl
        have c_x_9_9 := R_x_9.cell 9 rfl
        have c_x_10_9 := R_x_9.cell 10 rfl
        have c_x_11_9 := R_x_9.cell 11 rfl
        have c_x_12_9 := R_x_9.cell 12 rfl
        have c_x_13_9 := R_x_9.cell 13 rfl
        have c_x_14_9 := R_x_9.cell 14 rfl
        have c_x_15_9 := R_x_9.cell 15 rfl
        have d_x_9 := ldV_row R_x_9 rfl
        have l_x_9 := R_x_9.lt
        have HB9 : Below w.heap.size w w9 := by (repeat' (first | (with_reducible exact Below.refl _ _) | (with_reducible assumption) | (with_reducible exact Bw.out (by with_reducible assumption)) | (with_reducible refine bw_alloc ?_ _) | (with_reducible refine bw_step ?_ (by with_reducible assumption)) | (with_reducible refine Below.alloc ?_ ?_ _) | (with_reducible refine Below.drew ?_) | (with_reducible refine below_drewN ?_ _) | (with_reducible refine Below.setCell ?_ ?_ _) | (with_reducible refine below_step ?_ (by with_reducible assumption) ?_) | (with_reducible exact Nat.le_refl _) | omega | (simp; omega) | (simp; done)))
        clear R_q_8 c_q_0_8 c_q_1_8 c_q_2_8 c_q_3_8 c_q_4_8 c_q_5_8 c_q_6_8 c_q_7_8 c_q_8_8 c_q_9_8 c_q_10_8 c_q_11_8 c_q_12_8 c_q_13_8 c_q_14_8 c_q_15_8 d_q_8 R_x_8 c_x_0_8 c_x_1_8 c_x_2_8 c_x_3_8 c_x_4_8 c_x_5_8 c_x_6_8 c_x_7_8 c_x_8_8 c_x_9_8 c_x_10_8 c_x_11_8 c_x_12_8 c_x_13_8 c_x_14_8 c_x_15_8 d_x_8 hb8 hw8
        have hkc : k.tmod 12 = 0 ∨ k.tmod 12 = 1 ∨ k.tmod 12 = 2 ∨ k.tmod 12 = 3 ∨ k.tmod 12 = 4 ∨ k.tmod 12 = 5 ∨ k.tmod 12 = 6 ∨ k.tmod 12 = 7 ∨ k.tmod 12 = 8 ∨ k.tmod 12 = 9 ∨ k.tmod 12 = 10 ∨ k.tmod 12 = 11 := by
          rw [Int.tmod_eq_emod_of_nonneg k1]
          omega
        have HV1 := Lib.hid (valid_one ((HB.out)))
        obtain ⟨t1, t2, t3, t4⟩ := hls
        obtain ⟨t5, t6⟩ := hkk
        rcases hkc with hc | hc | hc | hc | hc | hc | hc | hc | hc | hc | hc | hc
        ·
          go_wp2_with fail
          refine (rate_pe { r with id := 0 } _ (HRI.out.step (HB9.alloc HB9.size _)) false 1 (rate_no (bad0 r))).mono ?_
          rintro e w10 ⟨rfl, hb10⟩
          have R_q_10 : Row w10 (w.heap.size) [.int .i64 r.id, .int .i64 r.lv, .int .i64 r.kd, .int .i64 r.fr, .int .i64 r.un, .int .i64 r.ls, .int .i64 r.ms, .int .i64 r.ar, .int .i64 r.kn, .int .i64 r.kk, .int .i64 r.wh.op, .int .i64 r.wh.n, .slice r.wh.at' r.wh.ks.length r.wh.cap, .int .i64 r.pr.op, .int .i64 r.pr.n, .slice r.pr.at' r.pr.ks.length r.pr.cap] := by (repeat' (first | (with_reducible assumption) | (with_reducible refine Row.new' _ _ _ (by first | rfl | (simp; done) | omega)) | (with_reducible refine Row.alloc ?_ _) | (with_reducible refine Row.drew ?_) | (with_reducible refine Row.drewN ?_ _) | (with_reducible refine Row.step ?_ (by with_reducible assumption)) | (with_reducible refine Row.set2' ?_ _ _; first | exact ⟨_, _, by with_reducible assumption⟩ | exact ⟨_, _, Row.alloc (by with_reducible assumption) _⟩ | exact ⟨_, _, Row.alloc (Row.alloc (by with_reducible assumption) _) _⟩) | (with_reducible refine Row.other ?_ (by first | omega | (simp; done) | (simp; omega)) _)))
          have c_q_0_10 := R_q_10.cell 0 rfl
          have c_q_1_10 := R_q_10.cell 1 rfl
          have c_q_2_10 := R_q_10.cell 2 rfl
          have c_q_3_10 := R_q_10.cell 3 rfl
          have c_q_4_10 := R_q_10.cell 4 rfl
          have c_q_5_10 := R_q_10.cell 5 rfl
          have c_q_6_10 := R_q_10.cell 6 rfl
          have c_q_7_10 := R_q_10.cell 7 rfl
          have c_q_8_10 := R_q_10.cell 8 rfl
          have c_q_9_10 := R_q_10.cell 9 rfl
          have c_q_10_10 := R_q_10.cell 10 rfl
          have c_q_11_10 := R_q_10.cell 11 rfl
          have c_q_12_10 := R_q_10.cell 12 rfl
          have c_q_13_10 := R_q_10.cell 13 rfl
          have c_q_14_10 := R_q_10.cell 14 rfl
          have c_q_15_10 := R_q_10.cell 15 rfl
          have d_q_10 := ldV_row R_q_10 rfl
          have l_q_10 := R_q_10.lt
          have HB10 : Below w.heap.size w w10 := by (repeat' (first | (with_reducible exact Below.refl _ _) | (with_reducible assumption) | (with_reducible exact Bw.out (by with_reducible assumption)) | (with_reducible refine bw_alloc ?_ _) | (with_reducible refine bw_step ?_ (by with_reducible assumption)) | (with_reducible refine Below.alloc ?_ ?_ _) | (with_reducible refine Below.drew ?_) | (with_reducible refine below_drewN ?_ _) | (with_reducible refine Below.setCell ?_ ?_ _) | (with_reducible refine below_step ?_ (by with_reducible assumption) ?_) | (with_reducible exact Nat.le_refl _) | omega | (simp; omega) | (simp; done)))
          clear R_q_9 c_q_0_9 c_q_1_9 c_q_2_9 c_q_3_9 c_q_4_9 c_q_5_9 c_q_6_9 c_q_7_9 c_q_8_9 c_q_9_9 c_q_10_9 c_q_11_9 c_q_12_9 c_q_13_9 c_q_14_9 c_q_15_9 d_q_9 R_x_9 c_x_0_9 c_x_1_9 c_x_2_9 c_x_3_9 c_x_4_9 c_x_5_9 c_x_6_9 c_x_7_9 c_x_8_9 c_x_9_9 c_x_10_9 c_x_11_9 c_x_12_9 c_x_13_9 c_x_14_9 c_x_15_9 d_x_9 hb9 HB9
          clear hc
          go_wp2_with fail
          refine (valid_ra [r] _ 1 1 _ (by omega) (slr_new [r] _ _ rfl rfl (mem1 (HRI.out.step HB10)) 1 rfl) true HV1.out.1).mono ?_
          rintro e w11 ⟨rfl, hb11⟩
          have R_q_11 : Row w11 (w.heap.size) [.int .i64 r.id, .int .i64 r.lv, .int .i64 r.kd, .int .i64 r.fr, .int .i64 r.un, .int .i64 r.ls, .int .i64 r.ms, .int .i64 r.ar, .int .i64 r.kn, .int .i64 r.kk, .int .i64 r.wh.op, .int .i64 r.wh.n, .slice r.wh.at' r.wh.ks.length r.wh.cap, .int .i64 r.pr.op, .int .i64 r.pr.n, .slice r.pr.at' r.pr.ks.length r.pr.cap] := by (repeat' (first | (with_reducible assumption) | (with_reducible refine Row.new' _ _ _ (by first | rfl | (simp; done) | omega)) | (with_reducible refine Row.alloc ?_ _) | (with_reducible refine Row.drew ?_) | (with_reducible refine Row.drewN ?_ _) | (with_reducible refine Row.step ?_ (by with_reducible assumption)) | (with_reducible refine Row.set2' ?_ _ _; first | exact ⟨_, _, by with_reducible assumption⟩ | exact ⟨_, _, Row.alloc (by with_reducible assumption) _⟩ | exact ⟨_, _, Row.alloc (Row.alloc (by with_reducible assumption) _) _⟩) | (with_reducible refine Row.other ?_ (by first | omega | (simp; done) | (simp; omega)) _)))
          have c_q_0_11 := R_q_11.cell 0 rfl
          have c_q_1_11 := R_q_11.cell 1 rfl
          have c_q_2_11 := R_q_11.cell 2 rfl
          have c_q_3_11 := R_q_11.cell 3 rfl
          have c_q_4_11 := R_q_11.cell 4 rfl
          have c_q_5_11 := R_q_11.cell 5 rfl
          have c_q_6_11 := R_q_11.cell 6 rfl
          have c_q_7_11 := R_q_11.cell 7 rfl
          have c_q_8_11 := R_q_11.cell 8 rfl
          have c_q_9_11 := R_q_11.cell 9 rfl
          have c_q_10_11 := R_q_11.cell 10 rfl
          have c_q_11_11 := R_q_11.cell 11 rfl
          have c_q_12_11 := R_q_11.cell 12 rfl
          have c_q_13_11 := R_q_11.cell 13 rfl
          have c_q_14_11 := R_q_11.cell 14 rfl
          have c_q_15_11 := R_q_11.cell 15 rfl
          have d_q_11 := ldV_row R_q_11 rfl
          have l_q_11 := R_q_11.lt
          have HB11 : Below w.heap.size w w11 := by (repeat' (first | (with_reducible exact Below.refl _ _) | (with_reducible assumption) | (with_reducible exact Bw.out (by with_reducible assumption)) | (with_reducible refine bw_alloc ?_ _) | (with_reducible refine bw_step ?_ (by with_reducible assumption)) | (with_reducible refine Below.alloc ?_ ?_ _) | (with_reducible refine Below.drew ?_) | (with_reducible refine below_drewN ?_ _) | (with_reducible refine Below.setCell ?_ ?_ _) | (with_reducible refine below_step ?_ (by with_reducible assumption) ?_) | (with_reducible exact Nat.le_refl _) | omega | (simp; omega) | (simp; done)))
          clear R_q_10 c_q_0_10 c_q_1_10 c_q_2_10 c_q_3_10 c_q_4_10 c_q_5_10 c_q_6_10 c_q_7_10 c_q_8_10 c_q_9_10 c_q_10_10 c_q_11_10 c_q_12_10 c_q_13_10 c_q_14_10 c_q_15_10 d_q_10 hb10 HB10
          go_wp2_with fail
          refine (valid_ra [r, r] _ 2 2 _ (by omega) (slr_new [r, r] _ _ rfl rfl (mem2 (HRI.out.step HB11)) 2 rfl) false HV1.out.2).mono ?_
          rintro e w12 ⟨rfl, hb12⟩
          have R_q_12 : Row w12 (w.heap.size) [.int .i64 r.id, .int .i64 r.lv, .int .i64 r.kd, .int .i64 r.fr, .int .i64 r.un, .int .i64 r.ls, .int .i64 r.ms, .int .i64 r.ar, .int .i64 r.kn, .int .i64 r.kk, .int .i64 r.wh.op, .int .i64 r.wh.n, .slice r.wh.at' r.wh.ks.length r.wh.cap, .int .i64 r.pr.op, .int .i64 r.pr.n, .slice r.pr.at' r.pr.ks.length r.pr.cap] := by (repeat' (first | (with_reducible assumption) | (with_reducible refine Row.new' _ _ _ (by first | rfl | (simp; done) | omega)) | (with_reducible refine Row.alloc ?_ _) | (with_reducible refine Row.drew ?_) | (with_reducible refine Row.drewN ?_ _) | (with_reducible refine Row.step ?_ (by with_reducible assumption)) | (with_reducible refine Row.set2' ?_ _ _; first | exact ⟨_, _, by with_reducible assumption⟩ | exact ⟨_, _, Row.alloc (by with_reducible assumption) _⟩ | exact ⟨_, _, Row.alloc (Row.alloc (by with_reducible assumption) _) _⟩) | (with_reducible refine Row.other ?_ (by first | omega | (simp; done) | (simp; omega)) _)))
          have c_q_0_12 := R_q_12.cell 0 rfl
          have c_q_1_12 := R_q_12.cell 1 rfl
          have c_q_2_12 := R_q_12.cell 2 rfl
          have c_q_3_12 := R_q_12.cell 3 rfl
          have c_q_4_12 := R_q_12.cell 4 rfl
          have c_q_5_12 := R_q_12.cell 5 rfl
          have c_q_6_12 := R_q_12.cell 6 rfl
          have c_q_7_12 := R_q_12.cell 7 rfl
          have c_q_8_12 := R_q_12.cell 8 rfl
          have c_q_9_12 := R_q_12.cell 9 rfl
          have c_q_10_12 := R_q_12.cell 10 rfl
          have c_q_11_12 := R_q_12.cell 11 rfl
          have c_q_12_12 := R_q_12.cell 12 rfl
          have c_q_13_12 := R_q_12.cell 13 rfl
          have c_q_14_12 := R_q_12.cell 14 rfl
          have c_q_15_12 := R_q_12.cell 15 rfl
          have d_q_12 := ldV_row R_q_12 rfl
          have l_q_12 := R_q_12.lt
          have HB12 : Below w.heap.size w w12 := by (repeat' (first | (with_reducible exact Below.refl _ _) | (with_reducible assumption) | (with_reducible exact Bw.out (by with_reducible assumption)) | (with_reducible refine bw_alloc ?_ _) | (with_reducible refine bw_step ?_ (by with_reducible assumption)) | (with_reducible refine Below.alloc ?_ ?_ _) | (with_reducible refine Below.drew ?_) | (with_reducible refine below_drewN ?_ _) | (with_reducible refine Below.setCell ?_ ?_ _) | (with_reducible refine below_step ?_ (by with_reducible assumption) ?_) | (with_reducible exact Nat.le_refl _) | omega | (simp; omega) | (simp; done)))
          clear R_q_11 c_q_0_11 c_q_1_11 c_q_2_11 c_q_3_11 c_q_4_11 c_q_5_11 c_q_6_11 c_q_7_11 c_q_8_11 c_q_9_11 c_q_10_11 c_q_11_11 c_q_12_11 c_q_13_11 c_q_14_11 c_q_15_11 d_q_11 hb11 HB11
          go_wp2_with fail
          go_ret
          refine ⟨(by first | rfl | exact ret_bool (by first | rfl | (simp; done) | (simp; omega))), ?_⟩
          (repeat' (first | (with_reducible exact Below.refl _ _) | (with_reducible assumption) | (with_reducible exact Bw.out (by with_reducible assumption)) | (with_reducible refine bw_alloc ?_ _) | (with_reducible refine bw_step ?_ (by with_reducible assumption)) | (with_reducible refine Below.alloc ?_ ?_ _) | (with_reducible refine Below.drew ?_) | (with_reducible refine below_drewN ?_ _) | (with_reducible refine Below.setCell ?_ ?_ _) | (with_reducible refine below_step ?_ (by with_reducible assumption) ?_) | (with_reducible exact Nat.le_refl _) | omega | (simp; omega) | (simp; done)))
        ·
          go_wp2_with fail
          refine (rate_pe { r with id := 1000001 } _ (HRI.out.step (HB9.alloc HB9.size _)) false 1 (rate_no (bad1 r))).mono ?_
          rintro e w10 ⟨rfl, hb10⟩
          have R_q_10 : Row w10 (w.heap.size) [.int .i64 r.id, .int .i64 r.lv, .int .i64 r.kd, .int .i64 r.fr, .int .i64 r.un, .int .i64 r.ls, .int .i64 r.ms, .int .i64 r.ar, .int .i64 r.kn, .int .i64 r.kk, .int .i64 r.wh.op, .int .i64 r.wh.n, .slice r.wh.at' r.wh.ks.length r.wh.cap, .int .i64 r.pr.op, .int .i64 r.pr.n, .slice r.pr.at' r.pr.ks.length r.pr.cap] := by (repeat' (first | (with_reducible assumption) | (with_reducible refine Row.new' _ _ _ (by first | rfl | (simp; done) | omega)) | (with_reducible refine Row.alloc ?_ _) | (with_reducible refine Row.drew ?_) | (with_reducible refine Row.drewN ?_ _) | (with_reducible refine Row.step ?_ (by with_reducible assumption)) | (with_reducible refine Row.set2' ?_ _ _; first | exact ⟨_, _, by with_reducible assumption⟩ | exact ⟨_, _, Row.alloc (by with_reducible assumption) _⟩ | exact ⟨_, _, Row.alloc (Row.alloc (by with_reducible assumption) _) _⟩) | (with_reducible refine Row.other ?_ (by first | omega | (simp; done) | (simp; omega)) _)))
          have c_q_0_10 := R_q_10.cell 0 rfl
          have c_q_1_10 := R_q_10.cell 1 rfl
          have c_q_2_10 := R_q_10.cell 2 rfl
          have c_q_3_10 := R_q_10.cell 3 rfl
          have c_q_4_10 := R_q_10.cell 4 rfl
          have c_q_5_10 := R_q_10.cell 5 rfl
          have c_q_6_10 := R_q_10.cell 6 rfl
          have c_q_7_10 := R_q_10.cell 7 rfl
          have c_q_8_10 := R_q_10.cell 8 rfl
          have c_q_9_10 := R_q_10.cell 9 rfl
          have c_q_10_10 := R_q_10.cell 10 rfl
          have c_q_11_10 := R_q_10.cell 11 rfl
          have c_q_12_10 := R_q_10.cell 12 rfl
          have c_q_13_10 := R_q_10.cell 13 rfl
          have c_q_14_10 := R_q_10.cell 14 rfl
          have c_q_15_10 := R_q_10.cell 15 rfl
          have d_q_10 := ldV_row R_q_10 rfl
          have l_q_10 := R_q_10.lt
          have HB10 : Below w.heap.size w w10 := by (repeat' (first | (with_reducible exact Below.refl _ _) | (with_reducible assumption) | (with_reducible exact Bw.out (by with_reducible assumption)) | (with_reducible refine bw_alloc ?_ _) | (with_reducible refine bw_step ?_ (by with_reducible assumption)) | (with_reducible refine Below.alloc ?_ ?_ _) | (with_reducible refine Below.drew ?_) | (with_reducible refine below_drewN ?_ _) | (with_reducible refine Below.setCell ?_ ?_ _) | (with_reducible refine below_step ?_ (by with_reducible assumption) ?_) | (with_reducible exact Nat.le_refl _) | omega | (simp; omega) | (simp; done)))
          clear R_q_9 c_q_0_9 c_q_1_9 c_q_2_9 c_q_3_9 c_q_4_9 c_q_5_9 c_q_6_9 c_q_7_9 c_q_8_9 c_q_9_9 c_q_10_9 c_q_11_9 c_q_12_9 c_q_13_9 c_q_14_9 c_q_15_9 d_q_9 R_x_9 c_x_0_9 c_x_1_9 c_x_2_9 c_x_3_9 c_x_4_9 c_x_5_9 c_x_6_9 c_x_7_9 c_x_8_9 c_x_9_9 c_x_10_9 c_x_11_9 c_x_12_9 c_x_13_9 c_x_14_9 c_x_15_9 d_x_9 hb9 HB9
          clear hc
          go_wp2_with fail
          refine (valid_ra [r] _ 1 1 _ (by omega) (slr_new [r] _ _ rfl rfl (mem1 (HRI.out.step HB10)) 1 rfl) true HV1.out.1).mono ?_
          rintro e w11 ⟨rfl, hb11⟩
          have R_q_11 : Row w11 (w.heap.size) [.int .i64 r.id, .int .i64 r.lv, .int .i64 r.kd, .int .i64 r.fr, .int .i64 r.un, .int .i64 r.ls, .int .i64 r.ms, .int .i64 r.ar, .int .i64 r.kn, .int .i64 r.kk, .int .i64 r.wh.op, .int .i64 r.wh.n, .slice r.wh.at' r.wh.ks.length r.wh.cap, .int .i64 r.pr.op, .int .i64 r.pr.n, .slice r.pr.at' r.pr.ks.length r.pr.cap] := by (repeat' (first | (with_reducible assumption) | (with_reducible refine Row.new' _ _ _ (by first | rfl | (simp; done) | omega)) | (with_reducible refine Row.alloc ?_ _) | (with_reducible refine Row.drew ?_) | (with_reducible refine Row.drewN ?_ _) | (with_reducible refine Row.step ?_ (by with_reducible assumption)) | (with_reducible refine Row.set2' ?_ _ _; first | exact ⟨_, _, by with_reducible assumption⟩ | exact ⟨_, _, Row.alloc (by with_reducible assumption) _⟩ | exact ⟨_, _, Row.alloc (Row.alloc (by with_reducible assumption) _) _⟩) | (with_reducible refine Row.other ?_ (by first | omega | (simp; done) | (simp; omega)) _)))
          have c_q_0_11 := R_q_11.cell 0 rfl
          have c_q_1_11 := R_q_11.cell 1 rfl
          have c_q_2_11 := R_q_11.cell 2 rfl
          have c_q_3_11 := R_q_11.cell 3 rfl
          have c_q_4_11 := R_q_11.cell 4 rfl
          have c_q_5_11 := R_q_11.cell 5 rfl
          have c_q_6_11 := R_q_11.cell 6 rfl
          have c_q_7_11 := R_q_11.cell 7 rfl
          have c_q_8_11 := R_q_11.cell 8 rfl
          have c_q_9_11 := R_q_11.cell 9 rfl
          have c_q_10_11 := R_q_11.cell 10 rfl
          have c_q_11_11 := R_q_11.cell 11 rfl
          have c_q_12_11 := R_q_11.cell 12 rfl
          have c_q_13_11 := R_q_11.cell 13 rfl
          have c_q_14_11 := R_q_11.cell 14 rfl
          have c_q_15_11 := R_q_11.cell 15 rfl
          have d_q_11 := ldV_row R_q_11 rfl
          have l_q_11 := R_q_11.lt
          have HB11 : Below w.heap.size w w11 := by (repeat' (first | (with_reducible exact Below.refl _ _) | (with_reducible assumption) | (with_reducible exact Bw.out (by with_reducible assumption)) | (with_reducible refine bw_alloc ?_ _) | (with_reducible refine bw_step ?_ (by with_reducible assumption)) | (with_reducible refine Below.alloc ?_ ?_ _) | (with_reducible refine Below.drew ?_) | (with_reducible refine below_drewN ?_ _) | (with_reducible refine Below.setCell ?_ ?_ _) | (with_reducible refine below_step ?_ (by with_reducible assumption) ?_) | (with_reducible exact Nat.le_refl _) | omega | (simp; omega) | (simp; done)))
          clear R_q_10 c_q_0_10 c_q_1_10 c_q_2_10 c_q_3_10 c_q_4_10 c_q_5_10 c_q_6_10 c_q_7_10 c_q_8_10 c_q_9_10 c_q_10_10 c_q_11_10 c_q_12_10 c_q_13_10 c_q_14_10 c_q_15_10 d_q_10 hb10 HB10
          go_wp2_with fail
          refine (valid_ra [r, r] _ 2 2 _ (by omega) (slr_new [r, r] _ _ rfl rfl (mem2 (HRI.out.step HB11)) 2 rfl) false HV1.out.2).mono ?_
          rintro e w12 ⟨rfl, hb12⟩
          have R_q_12 : Row w12 (w.heap.size) [.int .i64 r.id, .int .i64 r.lv, .int .i64 r.kd, .int .i64 r.fr, .int .i64 r.un, .int .i64 r.ls, .int .i64 r.ms, .int .i64 r.ar, .int .i64 r.kn, .int .i64 r.kk, .int .i64 r.wh.op, .int .i64 r.wh.n, .slice r.wh.at' r.wh.ks.length r.wh.cap, .int .i64 r.pr.op, .int .i64 r.pr.n, .slice r.pr.at' r.pr.ks.length r.pr.cap] := by (repeat' (first | (with_reducible assumption) | (with_reducible refine Row.new' _ _ _ (by first | rfl | (simp; done) | omega)) | (with_reducible refine Row.alloc ?_ _) | (with_reducible refine Row.drew ?_) | (with_reducible refine Row.drewN ?_ _) | (with_reducible refine Row.step ?_ (by with_reducible assumption)) | (with_reducible refine Row.set2' ?_ _ _; first | exact ⟨_, _, by with_reducible assumption⟩ | exact ⟨_, _, Row.alloc (by with_reducible assumption) _⟩ | exact ⟨_, _, Row.alloc (Row.alloc (by with_reducible assumption) _) _⟩) | (with_reducible refine Row.other ?_ (by first | omega | (simp; done) | (simp; omega)) _)))
          have c_q_0_12 := R_q_12.cell 0 rfl
          have c_q_1_12 := R_q_12.cell 1 rfl
          have c_q_2_12 := R_q_12.cell 2 rfl
          have c_q_3_12 := R_q_12.cell 3 rfl
          have c_q_4_12 := R_q_12.cell 4 rfl
          have c_q_5_12 := R_q_12.cell 5 rfl
          have c_q_6_12 := R_q_12.cell 6 rfl
          have c_q_7_12 := R_q_12.cell 7 rfl
          have c_q_8_12 := R_q_12.cell 8 rfl
          have c_q_9_12 := R_q_12.cell 9 rfl
          have c_q_10_12 := R_q_12.cell 10 rfl
          have c_q_11_12 := R_q_12.cell 11 rfl
          have c_q_12_12 := R_q_12.cell 12 rfl
          have c_q_13_12 := R_q_12.cell 13 rfl
          have c_q_14_12 := R_q_12.cell 14 rfl
          have c_q_15_12 := R_q_12.cell 15 rfl
          have d_q_12 := ldV_row R_q_12 rfl
          have l_q_12 := R_q_12.lt
          have HB12 : Below w.heap.size w w12 := by (repeat' (first | (with_reducible exact Below.refl _ _) | (with_reducible assumption) | (with_reducible exact Bw.out (by with_reducible assumption)) | (with_reducible refine bw_alloc ?_ _) | (with_reducible refine bw_step ?_ (by with_reducible assumption)) | (with_reducible refine Below.alloc ?_ ?_ _) | (with_reducible refine Below.drew ?_) | (with_reducible refine below_drewN ?_ _) | (with_reducible refine Below.setCell ?_ ?_ _) | (with_reducible refine below_step ?_ (by with_reducible assumption) ?_) | (with_reducible exact Nat.le_refl _) | omega | (simp; omega) | (simp; done)))
          clear R_q_11 c_q_0_11 c_q_1_11 c_q_2_11 c_q_3_11 c_q_4_11 c_q_5_11 c_q_6_11 c_q_7_11 c_q_8_11 c_q_9_11 c_q_10_11 c_q_11_11 c_q_12_11 c_q_13_11 c_q_14_11 c_q_15_11 d_q_11 hb11 HB11
          go_wp2_with fail
          go_ret
          refine ⟨(by first | rfl | exact ret_bool (by first | rfl | (simp; done) | (simp; omega))), ?_⟩
          (repeat' (first | (with_reducible exact Below.refl _ _) | (with_reducible assumption) | (with_reducible exact Bw.out (by with_reducible assumption)) | (with_reducible refine bw_alloc ?_ _) | (with_reducible refine bw_step ?_ (by with_reducible assumption)) | (with_reducible refine Below.alloc ?_ ?_ _) | (with_reducible refine Below.drew ?_) | (with_reducible refine below_drewN ?_ _) | (with_reducible refine Below.setCell ?_ ?_ _) | (with_reducible refine below_step ?_ (by with_reducible assumption) ?_) | (with_reducible exact Nat.le_refl _) | omega | (simp; omega) | (simp; done)))
        ·
          go_wp2_with fail
          refine (rate_pe { r with lv := -1 } _ (HRI.out.step (HB9.alloc HB9.size _)) false 1 (rate_no (bad2 r))).mono ?_
          rintro e w10 ⟨rfl, hb10⟩
          have R_q_10 : Row w10 (w.heap.size) [.int .i64 r.id, .int .i64 r.lv, .int .i64 r.kd, .int .i64 r.fr, .int .i64 r.un, .int .i64 r.ls, .int .i64 r.ms, .int .i64 r.ar, .int .i64 r.kn, .int .i64 r.kk, .int .i64 r.wh.op, .int .i64 r.wh.n, .slice r.wh.at' r.wh.ks.length r.wh.cap, .int .i64 r.pr.op, .int .i64 r.pr.n, .slice r.pr.at' r.pr.ks.length r.pr.cap] := by (repeat' (first | (with_reducible assumption) | (with_reducible refine Row.new' _ _ _ (by first | rfl | (simp; done) | omega)) | (with_reducible refine Row.alloc ?_ _) | (with_reducible refine Row.drew ?_) | (with_reducible refine Row.drewN ?_ _) | (with_reducible refine Row.step ?_ (by with_reducible assumption)) | (with_reducible refine Row.set2' ?_ _ _; first | exact ⟨_, _, by with_reducible assumption⟩ | exact ⟨_, _, Row.alloc (by with_reducible assumption) _⟩ | exact ⟨_, _, Row.alloc (Row.alloc (by with_reducible assumption) _) _⟩) | (with_reducible refine Row.other ?_ (by first | omega | (simp; done) | (simp; omega)) _)))
          have c_q_0_10 := R_q_10.cell 0 rfl
          have c_q_1_10 := R_q_10.cell 1 rfl
          have c_q_2_10 := R_q_10.cell 2 rfl
          have c_q_3_10 := R_q_10.cell 3 rfl
          have c_q_4_10 := R_q_10.cell 4 rfl
          have c_q_5_10 := R_q_10.cell 5 rfl
          have c_q_6_10 := R_q_10.cell 6 rfl
          have c_q_7_10 := R_q_10.cell 7 rfl
          have c_q_8_10 := R_q_10.cell 8 rfl
          have c_q_9_10 := R_q_10.cell 9 rfl
          have c_q_10_10 := R_q_10.cell 10 rfl
          have c_q_11_10 := R_q_10.cell 11 rfl
          have c_q_12_10 := R_q_10.cell 12 rfl
          have c_q_13_10 := R_q_10.cell 13 rfl
          have c_q_14_10 := R_q_10.cell 14 rfl
          have c_q_15_10 := R_q_10.cell 15 rfl
          have d_q_10 := ldV_row R_q_10 rfl
          have l_q_10 := R_q_10.lt
          have HB10 : Below w.heap.size w w10 := by (repeat' (first | (with_reducible exact Below.refl _ _) | (with_reducible assumption) | (with_reducible exact Bw.out (by with_reducible assumption)) | (with_reducible refine bw_alloc ?_ _) | (with_reducible refine bw_step ?_ (by with_reducible assumption)) | (with_reducible refine Below.alloc ?_ ?_ _) | (with_reducible refine Below.drew ?_) | (with_reducible refine below_drewN ?_ _) | (with_reducible refine Below.setCell ?_ ?_ _) | (with_reducible refine below_step ?_ (by with_reducible assumption) ?_) | (with_reducible exact Nat.le_refl _) | omega | (simp; omega) | (simp; done)))
          clear R_q_9 c_q_0_9 c_q_1_9 c_q_2_9 c_q_3_9 c_q_4_9 c_q_5_9 c_q_6_9 c_q_7_9 c_q_8_9 c_q_9_9 c_q_10_9 c_q_11_9 c_q_12_9 c_q_13_9 c_q_14_9 c_q_15_9 d_q_9 R_x_9 c_x_0_9 c_x_1_9 c_x_2_9 c_x_3_9 c_x_4_9 c_x_5_9 c_x_6_9 c_x_7_9 c_x_8_9 c_x_9_9 c_x_10_9 c_x_11_9 c_x_12_9 c_x_13_9 c_x_14_9 c_x_15_9 d_x_9 hb9 HB9
          clear hc
          go_wp2_with fail
          refine (valid_ra [r] _ 1 1 _ (by omega) (slr_new [r] _ _ rfl rfl (mem1 (HRI.out.step HB10)) 1 rfl) true HV1.out.1).mono ?_
          rintro e w11 ⟨rfl, hb11⟩
          have R_q_11 : Row w11 (w.heap.size) [.int .i64 r.id, .int .i64 r.lv, .int .i64 r.kd, .int .i64 r.fr, .int .i64 r.un, .int .i64 r.ls, .int .i64 r.ms, .int .i64 r.ar, .int .i64 r.kn, .int .i64 r.kk, .int .i64 r.wh.op, .int .i64 r.wh.n, .slice r.wh.at' r.wh.ks.length r.wh.cap, .int .i64 r.pr.op, .int .i64 r.pr.n, .slice r.pr.at' r.pr.ks.length r.pr.cap] := by (repeat' (first | (with_reducible assumption) | (with_reducible refine Row.new' _ _ _ (by first | rfl | (simp; done) | omega)) | (with_reducible refine Row.alloc ?_ _) | (with_reducible refine Row.drew ?_) | (with_reducible refine Row.drewN ?_ _) | (with_reducible refine Row.step ?_ (by with_reducible assumption)) | (with_reducible refine Row.set2' ?_ _ _; first | exact ⟨_, _, by with_reducible assumption⟩ | exact ⟨_, _, Row.alloc (by with_reducible assumption) _⟩ | exact ⟨_, _, Row.alloc (Row.alloc (by with_reducible assumption) _) _⟩) | (with_reducible refine Row.other ?_ (by first | omega | (simp; done) | (simp; omega)) _)))
          have c_q_0_11 := R_q_11.cell 0 rfl
          have c_q_1_11 := R_q_11.cell 1 rfl
          have c_q_2_11 := R_q_11.cell 2 rfl
          have c_q_3_11 := R_q_11.cell 3 rfl
          have c_q_4_11 := R_q_11.cell 4 rfl
          have c_q_5_11 := R_q_11.cell 5 rfl
          have c_q_6_11 := R_q_11.cell 6 rfl
          have c_q_7_11 := R_q_11.cell 7 rfl
          have c_q_8_11 := R_q_11.cell 8 rfl
          have c_q_9_11 := R_q_11.cell 9 rfl
          have c_q_10_11 := R_q_11.cell 10 rfl
          have c_q_11_11 := R_q_11.cell 11 rfl
          have c_q_12_11 := R_q_11.cell 12 rfl
          have c_q_13_11 := R_q_11.cell 13 rfl
          have c_q_14_11 := R_q_11.cell 14 rfl
          have c_q_15_11 := R_q_11.cell 15 rfl
          have d_q_11 := ldV_row R_q_11 rfl
          have l_q_11 := R_q_11.lt
          have HB11 : Below w.heap.size w w11 := by (repeat' (first | (with_reducible exact Below.refl _ _) | (with_reducible assumption) | (with_reducible exact Bw.out (by with_reducible assumption)) | (with_reducible refine bw_alloc ?_ _) | (with_reducible refine bw_step ?_ (by with_reducible assumption)) | (with_reducible refine Below.alloc ?_ ?_ _) | (with_reducible refine Below.drew ?_) | (with_reducible refine below_drewN ?_ _) | (with_reducible refine Below.setCell ?_ ?_ _) | (with_reducible refine below_step ?_ (by with_reducible assumption) ?_) | (with_reducible exact Nat.le_refl _) | omega | (simp; omega) | (simp; done)))
          clear R_q_10 c_q_0_10 c_q_1_10 c_q_2_10 c_q_3_10 c_q_4_10 c_q_5_10 c_q_6_10 c_q_7_10 c_q_8_10 c_q_9_10 c_q_10_10 c_q_11_10 c_q_12_10 c_q_13_10 c_q_14_10 c_q_15_10 d_q_10 hb10 HB10
          go_wp2_with fail
          refine (valid_ra [r, r] _ 2 2 _ (by omega) (slr_new [r, r] _ _ rfl rfl (mem2 (HRI.out.step HB11)) 2 rfl) false HV1.out.2).mono ?_
          rintro e w12 ⟨rfl, hb12⟩
          have R_q_12 : Row w12 (w.heap.size) [.int .i64 r.id, .int .i64 r.lv, .int .i64 r.kd, .int .i64 r.fr, .int .i64 r.un, .int .i64 r.ls, .int .i64 r.ms, .int .i64 r.ar, .int .i64 r.kn, .int .i64 r.kk, .int .i64 r.wh.op, .int .i64 r.wh.n, .slice r.wh.at' r.wh.ks.length r.wh.cap, .int .i64 r.pr.op, .int .i64 r.pr.n, .slice r.pr.at' r.pr.ks.length r.pr.cap] := by (repeat' (first | (with_reducible assumption) | (with_reducible refine Row.new' _ _ _ (by first | rfl | (simp; done) | omega)) | (with_reducible refine Row.alloc ?_ _) | (with_reducible refine Row.drew ?_) | (with_reducible refine Row.drewN ?_ _) | (with_reducible refine Row.step ?_ (by with_reducible assumption)) | (with_reducible refine Row.set2' ?_ _ _; first | exact ⟨_, _, by with_reducible assumption⟩ | exact ⟨_, _, Row.alloc (by with_reducible assumption) _⟩ | exact ⟨_, _, Row.alloc (Row.alloc (by with_reducible assumption) _) _⟩) | (with_reducible refine Row.other ?_ (by first | omega | (simp; done) | (simp; omega)) _)))
          have c_q_0_12 := R_q_12.cell 0 rfl
          have c_q_1_12 := R_q_12.cell 1 rfl
          have c_q_2_12 := R_q_12.cell 2 rfl
          have c_q_3_12 := R_q_12.cell 3 rfl
          have c_q_4_12 := R_q_12.cell 4 rfl
          have c_q_5_12 := R_q_12.cell 5 rfl
          have c_q_6_12 := R_q_12.cell 6 rfl
          have c_q_7_12 := R_q_12.cell 7 rfl
          have c_q_8_12 := R_q_12.cell 8 rfl
          have c_q_9_12 := R_q_12.cell 9 rfl
          have c_q_10_12 := R_q_12.cell 10 rfl
          have c_q_11_12 := R_q_12.cell 11 rfl
          have c_q_12_12 := R_q_12.cell 12 rfl
          have c_q_13_12 := R_q_12.cell 13 rfl
          have c_q_14_12 := R_q_12.cell 14 rfl
          have c_q_15_12 := R_q_12.cell 15 rfl
          have d_q_12 := ldV_row R_q_12 rfl
          have l_q_12 := R_q_12.lt
          have HB12 : Below w.heap.size w w12 := by (repeat' (first | (with_reducible exact Below.refl _ _) | (with_reducible assumption) | (with_reducible exact Bw.out (by with_reducible assumption)) | (with_reducible refine bw_alloc ?_ _) | (with_reducible refine bw_step ?_ (by with_reducible assumption)) | (with_reducible refine Below.alloc ?_ ?_ _) | (with_reducible refine Below.drew ?_) | (with_reducible refine below_drewN ?_ _) | (with_reducible refine Below.setCell ?_ ?_ _) | (with_reducible refine below_step ?_ (by with_reducible assumption) ?_) | (with_reducible exact Nat.le_refl _) | omega | (simp; omega) | (simp; done)))
          clear R_q_11 c_q_0_11 c_q_1_11 c_q_2_11 c_q_3_11 c_q_4_11 c_q_5_11 c_q_6_11 c_q_7_11 c_q_8_11 c_q_9_11 c_q_10_11 c_q_11_11 c_q_12_11 c_q_13_11 c_q_14_11 c_q_15_11 d_q_11 hb11 HB11
          go_wp2_with fail
          go_ret
          refine ⟨(by first | rfl | exact ret_bool (by first | rfl | (simp; done) | (simp; omega))), ?_⟩
          (repeat' (first | (with_reducible exact Below.refl _ _) | (with_reducible assumption) | (with_reducible exact Bw.out (by with_reducible assumption)) | (with_reducible refine bw_alloc ?_ _) | (with_reducible refine bw_step ?_ (by with_reducible assumption)) | (with_reducible refine Below.alloc ?_ ?_ _) | (with_reducible refine Below.drew ?_) | (with_reducible refine below_drewN ?_ _) | (with_reducible refine Below.setCell ?_ ?_ _) | (with_reducible refine below_step ?_ (by with_reducible assumption) ?_) | (with_reducible exact Nat.le_refl _) | omega | (simp; omega) | (simp; done)))
        ·
          go_wp2_with fail
          refine (rate_pe { r with lv := 101 } _ (HRI.out.step (HB9.alloc HB9.size _)) false 1 (rate_no (bad3 r))).mono ?_
          rintro e w10 ⟨rfl, hb10⟩
          have R_q_10 : Row w10 (w.heap.size) [.int .i64 r.id, .int .i64 r.lv, .int .i64 r.kd, .int .i64 r.fr, .int .i64 r.un, .int .i64 r.ls, .int .i64 r.ms, .int .i64 r.ar, .int .i64 r.kn, .int .i64 r.kk, .int .i64 r.wh.op, .int .i64 r.wh.n, .slice r.wh.at' r.wh.ks.length r.wh.cap, .int .i64 r.pr.op, .int .i64 r.pr.n, .slice r.pr.at' r.pr.ks.length r.pr.cap] := by (repeat' (first | (with_reducible assumption) | (with_reducible refine Row.new' _ _ _ (by first | rfl | (simp; done) | omega)) | (with_reducible refine Row.alloc ?_ _) | (with_reducible refine Row.drew ?_) | (with_reducible refine Row.drewN ?_ _) | (with_reducible refine Row.step ?_ (by with_reducible assumption)) | (with_reducible refine Row.set2' ?_ _ _; first | exact ⟨_, _, by with_reducible assumption⟩ | exact ⟨_, _, Row.alloc (by with_reducible assumption) _⟩ | exact ⟨_, _, Row.alloc (Row.alloc (by with_reducible assumption) _) _⟩) | (with_reducible refine Row.other ?_ (by first | omega | (simp; done) | (simp; omega)) _)))
          have c_q_0_10 := R_q_10.cell 0 rfl
          have c_q_1_10 := R_q_10.cell 1 rfl
          have c_q_2_10 := R_q_10.cell 2 rfl
          have c_q_3_10 := R_q_10.cell 3 rfl
          have c_q_4_10 := R_q_10.cell 4 rfl
          have c_q_5_10 := R_q_10.cell 5 rfl
          have c_q_6_10 := R_q_10.cell 6 rfl
          have c_q_7_10 := R_q_10.cell 7 rfl
          have c_q_8_10 := R_q_10.cell 8 rfl
          have c_q_9_10 := R_q_10.cell 9 rfl
          have c_q_10_10 := R_q_10.cell 10 rfl
          have c_q_11_10 := R_q_10.cell 11 rfl
          have c_q_12_10 := R_q_10.cell 12 rfl
          have c_q_13_10 := R_q_10.cell 13 rfl
          have c_q_14_10 := R_q_10.cell 14 rfl
          have c_q_15_10 := R_q_10.cell 15 rfl
          have d_q_10 := ldV_row R_q_10 rfl
          have l_q_10 := R_q_10.lt
          have HB10 : Below w.heap.size w w10 := by (repeat' (first | (with_reducible exact Below.refl _ _) | (with_reducible assumption) | (with_reducible exact Bw.out (by with_reducible assumption)) | (with_reducible refine bw_alloc ?_ _) | (with_reducible refine bw_step ?_ (by with_reducible assumption)) | (with_reducible refine Below.alloc ?_ ?_ _) | (with_reducible refine Below.drew ?_) | (with_reducible refine below_drewN ?_ _) | (with_reducible refine Below.setCell ?_ ?_ _) | (with_reducible refine below_step ?_ (by with_reducible assumption) ?_) | (with_reducible exact Nat.le_refl _) | omega | (simp; omega) | (simp; done)))
          clear R_q_9 c_q_0_9 c_q_1_9 c_q_2_9 c_q_3_9 c_q_4_9 c_q_5_9 c_q_6_9 c_q_7_9 c_q_8_9 c_q_9_9 c_q_10_9 c_q_11_9 c_q_12_9 c_q_13_9 c_q_14_9 c_q_15_9 d_q_9 R_x_9 c_x_0_9 c_x_1_9 c_x_2_9 c_x_3_9 c_x_4_9 c_x_5_9 c_x_6_9 c_x_7_9 c_x_8_9 c_x_9_9 c_x_10_9 c_x_11_9 c_x_12_9 c_x_13_9 c_x_14_9 c_x_15_9 d_x_9 hb9 HB9
          clear hc
          go_wp2_with fail
          refine (valid_ra [r] _ 1 1 _ (by omega) (slr_new [r] _ _ rfl rfl (mem1 (HRI.out.step HB10)) 1 rfl) true HV1.out.1).mono ?_
          rintro e w11 ⟨rfl, hb11⟩
          have R_q_11 : Row w11 (w.heap.size) [.int .i64 r.id, .int .i64 r.lv, .int .i64 r.kd, .int .i64 r.fr, .int .i64 r.un, .int .i64 r.ls, .int .i64 r.ms, .int .i64 r.ar, .int .i64 r.kn, .int .i64 r.kk, .int .i64 r.wh.op, .int .i64 r.wh.n, .slice r.wh.at' r.wh.ks.length r.wh.cap, .int .i64 r.pr.op, .int .i64 r.pr.n, .slice r.pr.at' r.pr.ks.length r.pr.cap] := by (repeat' (first | (with_reducible assumption) | (with_reducible refine Row.new' _ _ _ (by first | rfl | (simp; done) | omega)) | (with_reducible refine Row.alloc ?_ _) | (with_reducible refine Row.drew ?_) | (with_reducible refine Row.drewN ?_ _) | (with_reducible refine Row.step ?_ (by with_reducible assumption)) | (with_reducible refine Row.set2' ?_ _ _; first | exact ⟨_, _, by with_reducible assumption⟩ | exact ⟨_, _, Row.alloc (by with_reducible assumption) _⟩ | exact ⟨_, _, Row.alloc (Row.alloc (by with_reducible assumption) _) _⟩) | (with_reducible refine Row.other ?_ (by first | omega | (simp; done) | (simp; omega)) _)))
          have c_q_0_11 := R_q_11.cell 0 rfl
          have c_q_1_11 := R_q_11.cell 1 rfl
          have c_q_2_11 := R_q_11.cell 2 rfl
          have c_q_3_11 := R_q_11.cell 3 rfl
          have c_q_4_11 := R_q_11.cell 4 rfl
          have c_q_5_11 := R_q_11.cell 5 rfl
          have c_q_6_11 := R_q_11.cell 6 rfl
          have c_q_7_11 := R_q_11.cell 7 rfl
          have c_q_8_11 := R_q_11.cell 8 rfl
          have c_q_9_11 := R_q_11.cell 9 rfl
          have c_q_10_11 := R_q_11.cell 10 rfl
          have c_q_11_11 := R_q_11.cell 11 rfl
          have c_q_12_11 := R_q_11.cell 12 rfl
          have c_q_13_11 := R_q_11.cell 13 rfl
          have c_q_14_11 := R_q_11.cell 14 rfl
          have c_q_15_11 := R_q_11.cell 15 rfl
          have d_q_11 := ldV_row R_q_11 rfl
          have l_q_11 := R_q_11.lt
          have HB11 : Below w.heap.size w w11 := by (repeat' (first | (with_reducible exact Below.refl _ _) | (with_reducible assumption) | (with_reducible exact Bw.out (by with_reducible assumption)) | (with_reducible refine bw_alloc ?_ _) | (with_reducible refine bw_step ?_ (by with_reducible assumption)) | (with_reducible refine Below.alloc ?_ ?_ _) | (with_reducible refine Below.drew ?_) | (with_reducible refine below_drewN ?_ _) | (with_reducible refine Below.setCell ?_ ?_ _) | (with_reducible refine below_step ?_ (by with_reducible assumption) ?_) | (with_reducible exact Nat.le_refl _) | omega | (simp; omega) | (simp; done)))
          clear R_q_10 c_q_0_10 c_q_1_10 c_q_2_10 c_q_3_10 c_q_4_10 c_q_5_10 c_q_6_10 c_q_7_10 c_q_8_10 c_q_9_10 c_q_10_10 c_q_11_10 c_q_12_10 c_q_13_10 c_q_14_10 c_q_15_10 d_q_10 hb10 HB10
          go_wp2_with fail
          refine (valid_ra [r, r] _ 2 2 _ (by omega) (slr_new [r, r] _ _ rfl rfl (mem2 (HRI.out.step HB11)) 2 rfl) false HV1.out.2).mono ?_
          rintro e w12 ⟨rfl, hb12⟩
          have R_q_12 : Row w12 (w.heap.size) [.int .i64 r.id, .int .i64 r.lv, .int .i64 r.kd, .int .i64 r.fr, .int .i64 r.un, .int .i64 r.ls, .int .i64 r.ms, .int .i64 r.ar, .int .i64 r.kn, .int .i64 r.kk, .int .i64 r.wh.op, .int .i64 r.wh.n, .slice r.wh.at' r.wh.ks.length r.wh.cap, .int .i64 r.pr.op, .int .i64 r.pr.n, .slice r.pr.at' r.pr.ks.length r.pr.cap] := by (repeat' (first | (with_reducible assumption) | (with_reducible refine Row.new' _ _ _ (by first | rfl | (simp; done) | omega)) | (with_reducible refine Row.alloc ?_ _) | (with_reducible refine Row.drew ?_) | (with_reducible refine Row.drewN ?_ _) | (with_reducible refine Row.step ?_ (by with_reducible assumption)) | (with_reducible refine Row.set2' ?_ _ _; first | exact ⟨_, _, by with_reducible assumption⟩ | exact ⟨_, _, Row.alloc (by with_reducible assumption) _⟩ | exact ⟨_, _, Row.alloc (Row.alloc (by with_reducible assumption) _) _⟩) | (with_reducible refine Row.other ?_ (by first | omega | (simp; done) | (simp; omega)) _)))
          have c_q_0_12 := R_q_12.cell 0 rfl
          have c_q_1_12 := R_q_12.cell 1 rfl
          have c_q_2_12 := R_q_12.cell 2 rfl
          have c_q_3_12 := R_q_12.cell 3 rfl
          have c_q_4_12 := R_q_12.cell 4 rfl
          have c_q_5_12 := R_q_12.cell 5 rfl
          have c_q_6_12 := R_q_12.cell 6 rfl
          have c_q_7_12 := R_q_12.cell 7 rfl
          have c_q_8_12 := R_q_12.cell 8 rfl
          have c_q_9_12 := R_q_12.cell 9 rfl
          have c_q_10_12 := R_q_12.cell 10 rfl
          have c_q_11_12 := R_q_12.cell 11 rfl
          have c_q_12_12 := R_q_12.cell 12 rfl
          have c_q_13_12 := R_q_12.cell 13 rfl
          have c_q_14_12 := R_q_12.cell 14 rfl
          have c_q_15_12 := R_q_12.cell 15 rfl
          have d_q_12 := ldV_row R_q_12 rfl
          have l_q_12 := R_q_12.lt
          have HB12 : Below w.heap.size w w12 := by (repeat' (first | (with_reducible exact Below.refl _ _) | (with_reducible assumption) | (with_reducible exact Bw.out (by with_reducible assumption)) | (with_reducible refine bw_alloc ?_ _) | (with_reducible refine bw_step ?_ (by with_reducible assumption)) | (with_reducible refine Below.alloc ?_ ?_ _) | (with_reducible refine Below.drew ?_) | (with_reducible refine below_drewN ?_ _) | (with_reducible refine Below.setCell ?_ ?_ _) | (with_reducible refine below_step ?_ (by with_reducible assumption) ?_) | (with_reducible exact Nat.le_refl _) | omega | (simp; omega) | (simp; done)))
          clear R_q_11 c_q_0_11 c_q_1_11 c_q_2_11 c_q_3_11 c_q_4_11 c_q_5_11 c_q_6_11 c_q_7_11 c_q_8_11 c_q_9_11 c_q_10_11 c_q_11_11 c_q_12_11 c_q_13_11 c_q_14_11 c_q_15_11 d_q_11 hb11 HB11
          go_wp2_with fail
          go_ret
          refine ⟨(by first | rfl | exact ret_bool (by first | rfl | (simp; done) | (simp; omega))), ?_⟩
          (repeat' (first | (with_reducible exact Below.refl _ _) | (with_reducible assumption) | (with_reducible exact Bw.out (by with_reducible assumption)) | (with_reducible refine bw_alloc ?_ _) | (with_reducible refine bw_step ?_ (by with_reducible assumption)) | (with_reducible refine Below.alloc ?_ ?_ _) | (with_reducible refine Below.drew ?_) | (with_reducible refine below_drewN ?_ _) | (with_reducible refine Below.setCell ?_ ?_ _) | (with_reducible refine below_step ?_ (by with_reducible assumption) ?_) | (with_reducible exact Nat.le_refl _) | omega | (simp; omega) | (simp; done)))
        ·
          go_wp2_with fail
          refine (rate_pe { r with kd := 21 } _ (HRI.out.step (HB9.alloc HB9.size _)) false 1 (rate_no (bad4 r))).mono ?_
          rintro e w10 ⟨rfl, hb10⟩
          have R_q_10 : Row w10 (w.heap.size) [.int .i64 r.id, .int .i64 r.lv, .int .i64 r.kd, .int .i64 r.fr, .int .i64 r.un, .int .i64 r.ls, .int .i64 r.ms, .int .i64 r.ar, .int .i64 r.kn, .int .i64 r.kk, .int .i64 r.wh.op, .int .i64 r.wh.n, .slice r.wh.at' r.wh.ks.length r.wh.cap, .int .i64 r.pr.op, .int .i64 r.pr.n, .slice r.pr.at' r.pr.ks.length r.pr.cap] := by (repeat' (first | (with_reducible assumption) | (with_reducible refine Row.new' _ _ _ (by first | rfl | (simp; done) | omega)) | (with_reducible refine Row.alloc ?_ _) | (with_reducible refine Row.drew ?_) | (with_reducible refine Row.drewN ?_ _) | (with_reducible refine Row.step ?_ (by with_reducible assumption)) | (with_reducible refine Row.set2' ?_ _ _; first | exact ⟨_, _, by with_reducible assumption⟩ | exact ⟨_, _, Row.alloc (by with_reducible assumption) _⟩ | exact ⟨_, _, Row.alloc (Row.alloc (by with_reducible assumption) _) _⟩) | (with_reducible refine Row.other ?_ (by first | omega | (simp; done) | (simp; omega)) _)))
          have c_q_0_10 := R_q_10.cell 0 rfl
          have c_q_1_10 := R_q_10.cell 1 rfl
          have c_q_2_10 := R_q_10.cell 2 rfl
          have c_q_3_10 := R_q_10.cell 3 rfl
          have c_q_4_10 := R_q_10.cell 4 rfl
          have c_q_5_10 := R_q_10.cell 5 rfl
          have c_q_6_10 := R_q_10.cell 6 rfl
          have c_q_7_10 := R_q_10.cell 7 rfl
          have c_q_8_10 := R_q_10.cell 8 rfl
          have c_q_9_10 := R_q_10.cell 9 rfl
          have c_q_10_10 := R_q_10.cell 10 rfl
          have c_q_11_10 := R_q_10.cell 11 rfl
          have c_q_12_10 := R_q_10.cell 12 rfl
          have c_q_13_10 := R_q_10.cell 13 rfl
          have c_q_14_10 := R_q_10.cell 14 rfl
          have c_q_15_10 := R_q_10.cell 15 rfl
          have d_q_10 := ldV_row R_q_10 rfl
          have l_q_10 := R_q_10.lt
          have HB10 : Below w.heap.size w w10 := by (repeat' (first | (with_reducible exact Below.refl _ _) | (with_reducible assumption) | (with_reducible exact Bw.out (by with_reducible assumption)) | (with_reducible refine bw_alloc ?_ _) | (with_reducible refine bw_step ?_ (by with_reducible assumption)) | (with_reducible refine Below.alloc ?_ ?_ _) | (with_reducible refine Below.drew ?_) | (with_reducible refine below_drewN ?_ _) | (with_reducible refine Below.setCell ?_ ?_ _) | (with_reducible refine below_step ?_ (by with_reducible assumption) ?_) | (with_reducible exact Nat.le_refl _) | omega | (simp; omega) | (simp; done)))
          clear R_q_9 c_q_0_9 c_q_1_9 c_q_2_9 c_q_3_9 c_q_4_9 c_q_5_9 c_q_6_9 c_q_7_9 c_q_8_9 c_q_9_9 c_q_10_9 c_q_11_9 c_q_12_9 c_q_13_9 c_q_14_9 c_q_15_9 d_q_9 R_x_9 c_x_0_9 c_x_1_9 c_x_2_9 c_x_3_9 c_x_4_9 c_x_5_9 c_x_6_9 c_x_7_9 c_x_8_9 c_x_9_9 c_x_10_9 c_x_11_9 c_x_12_9 c_x_13_9 c_x_14_9 c_x_15_9 d_x_9 hb9 HB9
          clear hc
          go_wp2_with fail
          refine (valid_ra [r] _ 1 1 _ (by omega) (slr_new [r] _ _ rfl rfl (mem1 (HRI.out.step HB10)) 1 rfl) true HV1.out.1).mono ?_
          rintro e w11 ⟨rfl, hb11⟩
          have R_q_11 : Row w11 (w.heap.size) [.int .i64 r.id, .int .i64 r.lv, .int .i64 r.kd, .int .i64 r.fr, .int .i64 r.un, .int .i64 r.ls, .int .i64 r.ms, .int .i64 r.ar, .int .i64 r.kn, .int .i64 r.kk, .int .i64 r.wh.op, .int .i64 r.wh.n, .slice r.wh.at' r.wh.ks.length r.wh.cap, .int .i64 r.pr.op, .int .i64 r.pr.n, .slice r.pr.at' r.pr.ks.length r.pr.cap] := by (repeat' (first | (with_reducible assumption) | (with_reducible refine Row.new' _ _ _ (by first | rfl | (simp; done) | omega)) | (with_reducible refine Row.alloc ?_ _) | (with_reducible refine Row.drew ?_) | (with_reducible refine Row.drewN ?_ _) | (with_reducible refine Row.step ?_ (by with_reducible assumption)) | (with_reducible refine Row.set2' ?_ _ _; first | exact ⟨_, _, by with_reducible assumption⟩ | exact ⟨_, _, Row.alloc (by with_reducible assumption) _⟩ | exact ⟨_, _, Row.alloc (Row.alloc (by with_reducible assumption) _) _⟩) | (with_reducible refine Row.other ?_ (by first | omega | (simp; done) | (simp; omega)) _)))
          have c_q_0_11 := R_q_11.cell 0 rfl
          have c_q_1_11 := R_q_11.cell 1 rfl
          have c_q_2_11 := R_q_11.cell 2 rfl
          have c_q_3_11 := R_q_11.cell 3 rfl
          have c_q_4_11 := R_q_11.cell 4 rfl
          have c_q_5_11 := R_q_11.cell 5 rfl
          have c_q_6_11 := R_q_11.cell 6 rfl
          have c_q_7_11 := R_q_11.cell 7 rfl
          have c_q_8_11 := R_q_11.cell 8 rfl
          have c_q_9_11 := R_q_11.cell 9 rfl
          have c_q_10_11 := R_q_11.cell 10 rfl
          have c_q_11_11 := R_q_11.cell 11 rfl
          have c_q_12_11 := R_q_11.cell 12 rfl
          have c_q_13_11 := R_q_11.cell 13 rfl
          have c_q_14_11 := R_q_11.cell 14 rfl
          have c_q_15_11 := R_q_11.cell 15 rfl
          have d_q_11 := ldV_row R_q_11 rfl
          have l_q_11 := R_q_11.lt
          have HB11 : Below w.heap.size w w11 := by (repeat' (first | (with_reducible exact Below.refl _ _) | (with_reducible assumption) | (with_reducible exact Bw.out (by with_reducible assumption)) | (with_reducible refine bw_alloc ?_ _) | (with_reducible refine bw_step ?_ (by with_reducible assumption)) | (with_reducible refine Below.alloc ?_ ?_ _) | (with_reducible refine Below.drew ?_) | (with_reducible refine below_drewN ?_ _) | (with_reducible refine Below.setCell ?_ ?_ _) | (with_reducible refine below_step ?_ (by with_reducible assumption) ?_) | (with_reducible exact Nat.le_refl _) | omega | (simp; omega) | (simp; done)))
          clear R_q_10 c_q_0_10 c_q_1_10 c_q_2_10 c_q_3_10 c_q_4_10 c_q_5_10 c_q_6_10 c_q_7_10 c_q_8_10 c_q_9_10 c_q_10_10 c_q_11_10 c_q_12_10 c_q_13_10 c_q_14_10 c_q_15_10 d_q_10 hb10 HB10
          go_wp2_with fail
          refine (valid_ra [r, r] _ 2 2 _ (by omega) (slr_new [r, r] _ _ rfl rfl (mem2 (HRI.out.step HB11)) 2 rfl) false HV1.out.2).mono ?_
          rintro e w12 ⟨rfl, hb12⟩
          have R_q_12 : Row w12 (w.heap.size) [.int .i64 r.id, .int .i64 r.lv, .int .i64 r.kd, .int .i64 r.fr, .int .i64 r.un, .int .i64 r.ls, .int .i64 r.ms, .int .i64 r.ar, .int .i64 r.kn, .int .i64 r.kk, .int .i64 r.wh.op, .int .i64 r.wh.n, .slice r.wh.at' r.wh.ks.length r.wh.cap, .int .i64 r.pr.op, .int .i64 r.pr.n, .slice r.pr.at' r.pr.ks.length r.pr.cap] := by (repeat' (first | (with_reducible assumption) | (with_reducible refine Row.new' _ _ _ (by first | rfl | (simp; done) | omega)) | (with_reducible refine Row.alloc ?_ _) | (with_reducible refine Row.drew ?_) | (with_reducible refine Row.drewN ?_ _) | (with_reducible refine Row.step ?_ (by with_reducible assumption)) | (with_reducible refine Row.set2' ?_ _ _; first | exact ⟨_, _, by with_reducible assumption⟩ | exact ⟨_, _, Row.alloc (by with_reducible assumption) _⟩ | exact ⟨_, _, Row.alloc (Row.alloc (by with_reducible assumption) _) _⟩) | (with_reducible refine Row.other ?_ (by first | omega | (simp; done) | (simp; omega)) _)))
          have c_q_0_12 := R_q_12.cell 0 rfl
          have c_q_1_12 := R_q_12.cell 1 rfl
          have c_q_2_12 := R_q_12.cell 2 rfl
          have c_q_3_12 := R_q_12.cell 3 rfl
          have c_q_4_12 := R_q_12.cell 4 rfl
          have c_q_5_12 := R_q_12.cell 5 rfl
          have c_q_6_12 := R_q_12.cell 6 rfl
          have c_q_7_12 := R_q_12.cell 7 rfl
          have c_q_8_12 := R_q_12.cell 8 rfl
          have c_q_9_12 := R_q_12.cell 9 rfl
          have c_q_10_12 := R_q_12.cell 10 rfl
          have c_q_11_12 := R_q_12.cell 11 rfl
          have c_q_12_12 := R_q_12.cell 12 rfl
          have c_q_13_12 := R_q_12.cell 13 rfl
          have c_q_14_12 := R_q_12.cell 14 rfl
          have c_q_15_12 := R_q_12.cell 15 rfl
          have d_q_12 := ldV_row R_q_12 rfl
          have l_q_12 := R_q_12.lt
          have HB12 : Below w.heap.size w w12 := by (repeat' (first | (with_reducible exact Below.refl _ _) | (with_reducible assumption) | (with_reducible exact Bw.out (by with_reducible assumption)) | (with_reducible refine bw_alloc ?_ _) | (with_reducible refine bw_step ?_ (by with_reducible assumption)) | (with_reducible refine Below.alloc ?_ ?_ _) | (with_reducible refine Below.drew ?_) | (with_reducible refine below_drewN ?_ _) | (with_reducible refine Below.setCell ?_ ?_ _) | (with_reducible refine below_step ?_ (by with_reducible assumption) ?_) | (with_reducible exact Nat.le_refl _) | omega | (simp; omega) | (simp; done)))
          clear R_q_11 c_q_0_11 c_q_1_11 c_q_2_11 c_q_3_11 c_q_4_11 c_q_5_11 c_q_6_11 c_q_7_11 c_q_8_11 c_q_9_11 c_q_10_11 c_q_11_11 c_q_12_11 c_q_13_11 c_q_14_11 c_q_15_11 d_q_11 hb11 HB11
          go_wp2_with fail
          go_ret
          refine ⟨(by first | rfl | exact ret_bool (by first | rfl | (simp; done) | (simp; omega))), ?_⟩
          (repeat' (first | (with_reducible exact Below.refl _ _) | (with_reducible assumption) | (with_reducible exact Bw.out (by with_reducible assumption)) | (with_reducible refine bw_alloc ?_ _) | (with_reducible refine bw_step ?_ (by with_reducible assumption)) | (with_reducible refine Below.alloc ?_ ?_ _) | (with_reducible refine Below.drew ?_) | (with_reducible refine below_drewN ?_ _) | (with_reducible refine Below.setCell ?_ ?_ _) | (with_reducible refine below_step ?_ (by with_reducible assumption) ?_) | (with_reducible exact Nat.le_refl _) | omega | (simp; omega) | (simp; done)))
        ·
          go_wp2_with fail
          refine (rate_pe { r with un := r.fr } _ (HRI.out.step (HB9.alloc HB9.size _)) false 1 (rate_no (bad5 r))).mono ?_
          rintro e w10 ⟨rfl, hb10⟩
          have R_q_10 : Row w10 (w.heap.size) [.int .i64 r.id, .int .i64 r.lv, .int .i64 r.kd, .int .i64 r.fr, .int .i64 r.un, .int .i64 r.ls, .int .i64 r.ms, .int .i64 r.ar, .int .i64 r.kn, .int .i64 r.kk, .int .i64 r.wh.op, .int .i64 r.wh.n, .slice r.wh.at' r.wh.ks.length r.wh.cap, .int .i64 r.pr.op, .int .i64 r.pr.n, .slice r.pr.at' r.pr.ks.length r.pr.cap] := by (repeat' (first | (with_reducible assumption) | (with_reducible refine Row.new' _ _ _ (by first | rfl | (simp; done) | omega)) | (with_reducible refine Row.alloc ?_ _) | (with_reducible refine Row.drew ?_) | (with_reducible refine Row.drewN ?_ _) | (with_reducible refine Row.step ?_ (by with_reducible assumption)) | (with_reducible refine Row.set2' ?_ _ _; first | exact ⟨_, _, by with_reducible assumption⟩ | exact ⟨_, _, Row.alloc (by with_reducible assumption) _⟩ | exact ⟨_, _, Row.alloc (Row.alloc (by with_reducible assumption) _) _⟩) | (with_reducible refine Row.other ?_ (by first | omega | (simp; done) | (simp; omega)) _)))
          have c_q_0_10 := R_q_10.cell 0 rfl
          have c_q_1_10 := R_q_10.cell 1 rfl
          have c_q_2_10 := R_q_10.cell 2 rfl
          have c_q_3_10 := R_q_10.cell 3 rfl
          have c_q_4_10 := R_q_10.cell 4 rfl
          have c_q_5_10 := R_q_10.cell 5 rfl
          have c_q_6_10 := R_q_10.cell 6 rfl
          have c_q_7_10 := R_q_10.cell 7 rfl
          have c_q_8_10 := R_q_10.cell 8 rfl
          have c_q_9_10 := R_q_10.cell 9 rfl
          have c_q_10_10 := R_q_10.cell 10 rfl
          have c_q_11_10 := R_q_10.cell 11 rfl
          have c_q_12_10 := R_q_10.cell 12 rfl
          have c_q_13_10 := R_q_10.cell 13 rfl
          have c_q_14_10 := R_q_10.cell 14 rfl
          have c_q_15_10 := R_q_10.cell 15 rfl
          have d_q_10 := ldV_row R_q_10 rfl
          have l_q_10 := R_q_10.lt
          have HB10 : Below w.heap.size w w10 := by (repeat' (first | (with_reducible exact Below.refl _ _) | (with_reducible assumption) | (with_reducible exact Bw.out (by with_reducible assumption)) | (with_reducible refine bw_alloc ?_ _) | (with_reducible refine bw_step ?_ (by with_reducible assumption)) | (with_reducible refine Below.alloc ?_ ?_ _) | (with_reducible refine Below.drew ?_) | (with_reducible refine below_drewN ?_ _) | (with_reducible refine Below.setCell ?_ ?_ _) | (with_reducible refine below_step ?_ (by with_reducible assumption) ?_) | (with_reducible exact Nat.le_refl _) | omega | (simp; omega) | (simp; done)))
          clear R_q_9 c_q_0_9 c_q_1_9 c_q_2_9 c_q_3_9 c_q_4_9 c_q_5_9 c_q_6_9 c_q_7_9 c_q_8_9 c_q_9_9 c_q_10_9 c_q_11_9 c_q_12_9 c_q_13_9 c_q_14_9 c_q_15_9 d_q_9 R_x_9 c_x_0_9 c_x_1_9 c_x_2_9 c_x_3_9 c_x_4_9 c_x_5_9 c_x_6_9 c_x_7_9 c_x_8_9 c_x_9_9 c_x_10_9 c_x_11_9 c_x_12_9 c_x_13_9 c_x_14_9 c_x_15_9 d_x_9 hb9 HB9
          clear hc
          go_wp2_with fail
          refine (valid_ra [r] _ 1 1 _ (by omega) (slr_new [r] _ _ rfl rfl (mem1 (HRI.out.step HB10)) 1 rfl) true HV1.out.1).mono ?_
          rintro e w11 ⟨rfl, hb11⟩
          have R_q_11 : Row w11 (w.heap.size) [.int .i64 r.id, .int .i64 r.lv, .int .i64 r.kd, .int .i64 r.fr, .int .i64 r.un, .int .i64 r.ls, .int .i64 r.ms, .int .i64 r.ar, .int .i64 r.kn, .int .i64 r.kk, .int .i64 r.wh.op, .int .i64 r.wh.n, .slice r.wh.at' r.wh.ks.length r.wh.cap, .int .i64 r.pr.op, .int .i64 r.pr.n, .slice r.pr.at' r.pr.ks.length r.pr.cap] := by (repeat' (first | (with_reducible assumption) | (with_reducible refine Row.new' _ _ _ (by first | rfl | (simp; done) | omega)) | (with_reducible refine Row.alloc ?_ _) | (with_reducible refine Row.drew ?_) | (with_reducible refine Row.drewN ?_ _) | (with_reducible refine Row.step ?_ (by with_reducible assumption)) | (with_reducible refine Row.set2' ?_ _ _; first | exact ⟨_, _, by with_reducible assumption⟩ | exact ⟨_, _, Row.alloc (by with_reducible assumption) _⟩ | exact ⟨_, _, Row.alloc (Row.alloc (by with_reducible assumption) _) _⟩) | (with_reducible refine Row.other ?_ (by first | omega | (simp; done) | (simp; omega)) _)))
          have c_q_0_11 := R_q_11.cell 0 rfl
          have c_q_1_11 := R_q_11.cell 1 rfl
          have c_q_2_11 := R_q_11.cell 2 rfl
          have c_q_3_11 := R_q_11.cell 3 rfl
          have c_q_4_11 := R_q_11.cell 4 rfl
          have c_q_5_11 := R_q_11.cell 5 rfl
          have c_q_6_11 := R_q_11.cell 6 rfl
          have c_q_7_11 := R_q_11.cell 7 rfl
          have c_q_8_11 := R_q_11.cell 8 rfl
          have c_q_9_11 := R_q_11.cell 9 rfl
          have c_q_10_11 := R_q_11.cell 10 rfl
          have c_q_11_11 := R_q_11.cell 11 rfl
          have c_q_12_11 := R_q_11.cell 12 rfl
          have c_q_13_11 := R_q_11.cell 13 rfl
          have c_q_14_11 := R_q_11.cell 14 rfl
          have c_q_15_11 := R_q_11.cell 15 rfl
          have d_q_11 := ldV_row R_q_11 rfl
          have l_q_11 := R_q_11.lt
          have HB11 : Below w.heap.size w w11 := by (repeat' (first | (with_reducible exact Below.refl _ _) | (with_reducible assumption) | (with_reducible exact Bw.out (by with_reducible assumption)) | (with_reducible refine bw_alloc ?_ _) | (with_reducible refine bw_step ?_ (by with_reducible assumption)) | (with_reducible refine Below.alloc ?_ ?_ _) | (with_reducible refine Below.drew ?_) | (with_reducible refine below_drewN ?_ _) | (with_reducible refine Below.setCell ?_ ?_ _) | (with_reducible refine below_step ?_ (by with_reducible assumption) ?_) | (with_reducible exact Nat.le_refl _) | omega | (simp; omega) | (simp; done)))
          clear R_q_10 c_q_0_10 c_q_1_10 c_q_2_10 c_q_3_10 c_q_4_10 c_q_5_10 c_q_6_10 c_q_7_10 c_q_8_10 c_q_9_10 c_q_10_10 c_q_11_10 c_q_12_10 c_q_13_10 c_q_14_10 c_q_15_10 d_q_10 hb10 HB10
          go_wp2_with fail
          refine (valid_ra [r, r] _ 2 2 _ (by omega) (slr_new [r, r] _ _ rfl rfl (mem2 (HRI.out.step HB11)) 2 rfl) false HV1.out.2).mono ?_
          rintro e w12 ⟨rfl, hb12⟩
          have R_q_12 : Row w12 (w.heap.size) [.int .i64 r.id, .int .i64 r.lv, .int .i64 r.kd, .int .i64 r.fr, .int .i64 r.un, .int .i64 r.ls, .int .i64 r.ms, .int .i64 r.ar, .int .i64 r.kn, .int .i64 r.kk, .int .i64 r.wh.op, .int .i64 r.wh.n, .slice r.wh.at' r.wh.ks.length r.wh.cap, .int .i64 r.pr.op, .int .i64 r.pr.n, .slice r.pr.at' r.pr.ks.length r.pr.cap] := by (repeat' (first | (with_reducible assumption) | (with_reducible refine Row.new' _ _ _ (by first | rfl | (simp; done) | omega)) | (with_reducible refine Row.alloc ?_ _) | (with_reducible refine Row.drew ?_) | (with_reducible refine Row.drewN ?_ _) | (with_reducible refine Row.step ?_ (by with_reducible assumption)) | (with_reducible refine Row.set2' ?_ _ _; first | exact ⟨_, _, by with_reducible assumption⟩ | exact ⟨_, _, Row.alloc (by with_reducible assumption) _⟩ | exact ⟨_, _, Row.alloc (Row.alloc (by with_reducible assumption) _) _⟩) | (with_reducible refine Row.other ?_ (by first | omega | (simp; done) | (simp; omega)) _)))
          have c_q_0_12 := R_q_12.cell 0 rfl
          have c_q_1_12 := R_q_12.cell 1 rfl
          have c_q_2_12 := R_q_12.cell 2 rfl
          have c_q_3_12 := R_q_12.cell 3 rfl
          have c_q_4_12 := R_q_12.cell 4 rfl
          have c_q_5_12 := R_q_12.cell 5 rfl
          have c_q_6_12 := R_q_12.cell 6 rfl
          have c_q_7_12 := R_q_12.cell 7 rfl
          have c_q_8_12 := R_q_12.cell 8 rfl
          have c_q_9_12 := R_q_12.cell 9 rfl
          have c_q_10_12 := R_q_12.cell 10 rfl
          have c_q_11_12 := R_q_12.cell 11 rfl
          have c_q_12_12 := R_q_12.cell 12 rfl
          have c_q_13_12 := R_q_12.cell 13 rfl
          have c_q_14_12 := R_q_12.cell 14 rfl
          have c_q_15_12 := R_q_12.cell 15 rfl
          have d_q_12 := ldV_row R_q_12 rfl
          have l_q_12 := R_q_12.lt
          have HB12 : Below w.heap.size w w12 := by (repeat' (first | (with_reducible exact Below.refl _ _) | (with_reducible assumption) | (with_reducible exact Bw.out (by with_reducible assumption)) | (with_reducible refine bw_alloc ?_ _) | (with_reducible refine bw_step ?_ (by with_reducible assumption)) | (with_reducible refine Below.alloc ?_ ?_ _) | (with_reducible refine Below.drew ?_) | (with_reducible refine below_drewN ?_ _) | (with_reducible refine Below.setCell ?_ ?_ _) | (with_reducible refine below_step ?_ (by with_reducible assumption) ?_) | (with_reducible exact Nat.le_refl _) | omega | (simp; omega) | (simp; done)))
          clear R_q_11 c_q_0_11 c_q_1_11 c_q_2_11 c_q_3_11 c_q_4_11 c_q_5_11 c_q_6_11 c_q_7_11 c_q_8_11 c_q_9_11 c_q_10_11 c_q_11_11 c_q_12_11 c_q_13_11 c_q_14_11 c_q_15_11 d_q_11 hb11 HB11
          go_wp2_with fail
          go_ret
          refine ⟨(by first | rfl | exact ret_bool (by first | rfl | (simp; done) | (simp; omega))), ?_⟩
          (repeat' (first | (with_reducible exact Below.refl _ _) | (with_reducible assumption) | (with_reducible exact Bw.out (by with_reducible assumption)) | (with_reducible refine bw_alloc ?_ _) | (with_reducible refine bw_step ?_ (by with_reducible assumption)) | (with_reducible refine Below.alloc ?_ ?_ _) | (with_reducible refine Below.drew ?_) | (with_reducible refine below_drewN ?_ _) | (with_reducible refine Below.setCell ?_ ?_ _) | (with_reducible refine below_step ?_ (by with_reducible assumption) ?_) | (with_reducible exact Nat.le_refl _) | omega | (simp; omega) | (simp; done)))
        ·
          go_wp2_with fail
          refine (rate_pe { r with un := 367 } _ (HRI.out.step (HB9.alloc HB9.size _)) false 1 (rate_no (bad6 r))).mono ?_
          rintro e w10 ⟨rfl, hb10⟩
          have R_q_10 : Row w10 (w.heap.size) [.int .i64 r.id, .int .i64 r.lv, .int .i64 r.kd, .int .i64 r.fr, .int .i64 r.un, .int .i64 r.ls, .int .i64 r.ms, .int .i64 r.ar, .int .i64 r.kn, .int .i64 r.kk, .int .i64 r.wh.op, .int .i64 r.wh.n, .slice r.wh.at' r.wh.ks.length r.wh.cap, .int .i64 r.pr.op, .int .i64 r.pr.n, .slice r.pr.at' r.pr.ks.length r.pr.cap] := by (repeat' (first | (with_reducible assumption) | (with_reducible refine Row.new' _ _ _ (by first | rfl | (simp; done) | omega)) | (with_reducible refine Row.alloc ?_ _) | (with_reducible refine Row.drew ?_) | (with_reducible refine Row.drewN ?_ _) | (with_reducible refine Row.step ?_ (by with_reducible assumption)) | (with_reducible refine Row.set2' ?_ _ _; first | exact ⟨_, _, by with_reducible assumption⟩ | exact ⟨_, _, Row.alloc (by with_reducible assumption) _⟩ | exact ⟨_, _, Row.alloc (Row.alloc (by with_reducible assumption) _) _⟩) | (with_reducible refine Row.other ?_ (by first | omega | (simp; done) | (simp; omega)) _)))
          have c_q_0_10 := R_q_10.cell 0 rfl
          have c_q_1_10 := R_q_10.cell 1 rfl
          have c_q_2_10 := R_q_10.cell 2 rfl
          have c_q_3_10 := R_q_10.cell 3 rfl
          have c_q_4_10 := R_q_10.cell 4 rfl
          have c_q_5_10 := R_q_10.cell 5 rfl
          have c_q_6_10 := R_q_10.cell 6 rfl
          have c_q_7_10 := R_q_10.cell 7 rfl
          have c_q_8_10 := R_q_10.cell 8 rfl
          have c_q_9_10 := R_q_10.cell 9 rfl
          have c_q_10_10 := R_q_10.cell 10 rfl
          have c_q_11_10 := R_q_10.cell 11 rfl
          have c_q_12_10 := R_q_10.cell 12 rfl
          have c_q_13_10 := R_q_10.cell 13 rfl
          have c_q_14_10 := R_q_10.cell 14 rfl
          have c_q_15_10 := R_q_10.cell 15 rfl
          have d_q_10 := ldV_row R_q_10 rfl
          have l_q_10 := R_q_10.lt
          have HB10 : Below w.heap.size w w10 := by (repeat' (first | (with_reducible exact Below.refl _ _) | (with_reducible assumption) | (with_reducible exact Bw.out (by with_reducible assumption)) | (with_reducible refine bw_alloc ?_ _) | (with_reducible refine bw_step ?_ (by with_reducible assumption)) | (with_reducible refine Below.alloc ?_ ?_ _) | (with_reducible refine Below.drew ?_) | (with_reducible refine below_drewN ?_ _) | (with_reducible refine Below.setCell ?_ ?_ _) | (with_reducible refine below_step ?_ (by with_reducible assumption) ?_) | (with_reducible exact Nat.le_refl _) | omega | (simp; omega) | (simp; done)))
          clear R_q_9 c_q_0_9 c_q_1_9 c_q_2_9 c_q_3_9 c_q_4_9 c_q_5_9 c_q_6_9 c_q_7_9 c_q_8_9 c_q_9_9 c_q_10_9 c_q_11_9 c_q_12_9 c_q_13_9 c_q_14_9 c_q_15_9 d_q_9 R_x_9 c_x_0_9 c_x_1_9 c_x_2_9 c_x_3_9 c_x_4_9 c_x_5_9 c_x_6_9 c_x_7_9 c_x_8_9 c_x_9_9 c_x_10_9 c_x_11_9 c_x_12_9 c_x_13_9 c_x_14_9 c_x_15_9 d_x_9 hb9 HB9
          clear hc
          go_wp2_with fail
          refine (valid_ra [r] _ 1 1 _ (by omega) (slr_new [r] _ _ rfl rfl (mem1 (HRI.out.step HB10)) 1 rfl) true HV1.out.1).mono ?_
          rintro e w11 ⟨rfl, hb11⟩
          have R_q_11 : Row w11 (w.heap.size) [.int .i64 r.id, .int .i64 r.lv, .int .i64 r.kd, .int .i64 r.fr, .int .i64 r.un, .int .i64 r.ls, .int .i64 r.ms, .int .i64 r.ar, .int .i64 r.kn, .int .i64 r.kk, .int .i64 r.wh.op, .int .i64 r.wh.n, .slice r.wh.at' r.wh.ks.length r.wh.cap, .int .i64 r.pr.op, .int .i64 r.pr.n, .slice r.pr.at' r.pr.ks.length r.pr.cap] := by (repeat' (first | (with_reducible assumption) | (with_reducible refine Row.new' _ _ _ (by first | rfl | (simp; done) | omega)) | (with_reducible refine Row.alloc ?_ _) | (with_reducible refine Row.drew ?_) | (with_reducible refine Row.drewN ?_ _) | (with_reducible refine Row.step ?_ (by with_reducible assumption)) | (with_reducible refine Row.set2' ?_ _ _; first | exact ⟨_, _, by with_reducible assumption⟩ | exact ⟨_, _, Row.alloc (by with_reducible assumption) _⟩ | exact ⟨_, _, Row.alloc (Row.alloc (by with_reducible assumption) _) _⟩) | (with_reducible refine Row.other ?_ (by first | omega | (simp; done) | (simp; omega)) _)))
          have c_q_0_11 := R_q_11.cell 0 rfl
          have c_q_1_11 := R_q_11.cell 1 rfl
          have c_q_2_11 := R_q_11.cell 2 rfl
          have c_q_3_11 := R_q_11.cell 3 rfl
          have c_q_4_11 := R_q_11.cell 4 rfl
          have c_q_5_11 := R_q_11.cell 5 rfl
          have c_q_6_11 := R_q_11.cell 6 rfl
          have c_q_7_11 := R_q_11.cell 7 rfl
          have c_q_8_11 := R_q_11.cell 8 rfl
          have c_q_9_11 := R_q_11.cell 9 rfl
          have c_q_10_11 := R_q_11.cell 10 rfl
          have c_q_11_11 := R_q_11.cell 11 rfl
          have c_q_12_11 := R_q_11.cell 12 rfl
          have c_q_13_11 := R_q_11.cell 13 rfl
          have c_q_14_11 := R_q_11.cell 14 rfl
          have c_q_15_11 := R_q_11.cell 15 rfl
          have d_q_11 := ldV_row R_q_11 rfl
          have l_q_11 := R_q_11.lt
          have HB11 : Below w.heap.size w w11 := by (repeat' (first | (with_reducible exact Below.refl _ _) | (with_reducible assumption) | (with_reducible exact Bw.out (by with_reducible assumption)) | (with_reducible refine bw_alloc ?_ _) | (with_reducible refine bw_step ?_ (by with_reducible assumption)) | (with_reducible refine Below.alloc ?_ ?_ _) | (with_reducible refine Below.drew ?_) | (with_reducible refine below_drewN ?_ _) | (with_reducible refine Below.setCell ?_ ?_ _) | (with_reducible refine below_step ?_ (by with_reducible assumption) ?_) | (with_reducible exact Nat.le_refl _) | omega | (simp; omega) | (simp; done)))
          clear R_q_10 c_q_0_10 c_q_1_10 c_q_2_10 c_q_3_10 c_q_4_10 c_q_5_10 c_q_6_10 c_q_7_10 c_q_8_10 c_q_9_10 c_q_10_10 c_q_11_10 c_q_12_10 c_q_13_10 c_q_14_10 c_q_15_10 d_q_10 hb10 HB10
          go_wp2_with fail
          refine (valid_ra [r, r] _ 2 2 _ (by omega) (slr_new [r, r] _ _ rfl rfl (mem2 (HRI.out.step HB11)) 2 rfl) false HV1.out.2).mono ?_
          rintro e w12 ⟨rfl, hb12⟩
          have R_q_12 : Row w12 (w.heap.size) [.int .i64 r.id, .int .i64 r.lv, .int .i64 r.kd, .int .i64 r.fr, .int .i64 r.un, .int .i64 r.ls, .int .i64 r.ms, .int .i64 r.ar, .int .i64 r.kn, .int .i64 r.kk, .int .i64 r.wh.op, .int .i64 r.wh.n, .slice r.wh.at' r.wh.ks.length r.wh.cap, .int .i64 r.pr.op, .int .i64 r.pr.n, .slice r.pr.at' r.pr.ks.length r.pr.cap] := by (repeat' (first | (with_reducible assumption) | (with_reducible refine Row.new' _ _ _ (by first | rfl | (simp; done) | omega)) | (with_reducible refine Row.alloc ?_ _) | (with_reducible refine Row.drew ?_) | (with_reducible refine Row.drewN ?_ _) | (with_reducible refine Row.step ?_ (by with_reducible assumption)) | (with_reducible refine Row.set2' ?_ _ _; first | exact ⟨_, _, by with_reducible assumption⟩ | exact ⟨_, _, Row.alloc (by with_reducible assumption) _⟩ | exact ⟨_, _, Row.alloc (Row.alloc (by with_reducible assumption) _) _⟩) | (with_reducible refine Row.other ?_ (by first | omega | (simp; done) | (simp; omega)) _)))
          have c_q_0_12 := R_q_12.cell 0 rfl
          have c_q_1_12 := R_q_12.cell 1 rfl
          have c_q_2_12 := R_q_12.cell 2 rfl
          have c_q_3_12 := R_q_12.cell 3 rfl
          have c_q_4_12 := R_q_12.cell 4 rfl
          have c_q_5_12 := R_q_12.cell 5 rfl
          have c_q_6_12 := R_q_12.cell 6 rfl
          have c_q_7_12 := R_q_12.cell 7 rfl
          have c_q_8_12 := R_q_12.cell 8 rfl
          have c_q_9_12 := R_q_12.cell 9 rfl
          have c_q_10_12 := R_q_12.cell 10 rfl
          have c_q_11_12 := R_q_12.cell 11 rfl
          have c_q_12_12 := R_q_12.cell 12 rfl
          have c_q_13_12 := R_q_12.cell 13 rfl
          have c_q_14_12 := R_q_12.cell 14 rfl
          have c_q_15_12 := R_q_12.cell 15 rfl
          have d_q_12 := ldV_row R_q_12 rfl
          have l_q_12 := R_q_12.lt
          have HB12 : Below w.heap.size w w12 := by (repeat' (first | (with_reducible exact Below.refl _ _) | (with_reducible assumption) | (with_reducible exact Bw.out (by with_reducible assumption)) | (with_reducible refine bw_alloc ?_ _) | (with_reducible refine bw_step ?_ (by with_reducible assumption)) | (with_reducible refine Below.alloc ?_ ?_ _) | (with_reducible refine Below.drew ?_) | (with_reducible refine below_drewN ?_ _) | (with_reducible refine Below.setCell ?_ ?_ _) | (with_reducible refine below_step ?_ (by with_reducible assumption) ?_) | (with_reducible exact Nat.le_refl _) | omega | (simp; omega) | (simp; done)))
          clear R_q_11 c_q_0_11 c_q_1_11 c_q_2_11 c_q_3_11 c_q_4_11 c_q_5_11 c_q_6_11 c_q_7_11 c_q_8_11 c_q_9_11 c_q_10_11 c_q_11_11 c_q_12_11 c_q_13_11 c_q_14_11 c_q_15_11 d_q_11 hb11 HB11
          go_wp2_with fail
          go_ret
          refine ⟨(by first | rfl | exact ret_bool (by first | rfl | (simp; done) | (simp; omega))), ?_⟩
          (repeat' (first | (with_reducible exact Below.refl _ _) | (with_reducible assumption) | (with_reducible exact Bw.out (by with_reducible assumption)) | (with_reducible refine bw_alloc ?_ _) | (with_reducible refine bw_step ?_ (by with_reducible assumption)) | (with_reducible refine Below.alloc ?_ ?_ _) | (with_reducible refine Below.drew ?_) | (with_reducible refine below_drewN ?_ _) | (with_reducible refine Below.setCell ?_ ?_ _) | (with_reducible refine below_step ?_ (by with_reducible assumption) ?_) | (with_reducible exact Nat.le_refl _) | omega | (simp; omega) | (simp; done)))
        ·
          go_wp2_with fail
          refine (rate_pe { r with ls := r.ms + 1 } _ (HRI.out.step (HB9.alloc HB9.size _)) false 1 (rate_no (bad7 r))).mono ?_
          rintro e w10 ⟨rfl, hb10⟩
          have R_q_10 : Row w10 (w.heap.size) [.int .i64 r.id, .int .i64 r.lv, .int .i64 r.kd, .int .i64 r.fr, .int .i64 r.un, .int .i64 r.ls, .int .i64 r.ms, .int .i64 r.ar, .int .i64 r.kn, .int .i64 r.kk, .int .i64 r.wh.op, .int .i64 r.wh.n, .slice r.wh.at' r.wh.ks.length r.wh.cap, .int .i64 r.pr.op, .int .i64 r.pr.n, .slice r.pr.at' r.pr.ks.length r.pr.cap] := by (repeat' (first | (with_reducible assumption) | (with_reducible refine Row.new' _ _ _ (by first | rfl | (simp; done) | omega)) | (with_reducible refine Row.alloc ?_ _) | (with_reducible refine Row.drew ?_) | (with_reducible refine Row.drewN ?_ _) | (with_reducible refine Row.step ?_ (by with_reducible assumption)) | (with_reducible refine Row.set2' ?_ _ _; first | exact ⟨_, _, by with_reducible assumption⟩ | exact ⟨_, _, Row.alloc (by with_reducible assumption) _⟩ | exact ⟨_, _, Row.alloc (Row.alloc (by with_reducible assumption) _) _⟩) | (with_reducible refine Row.other ?_ (by first | omega | (simp; done) | (simp; omega)) _)))
          have c_q_0_10 := R_q_10.cell 0 rfl
          have c_q_1_10 := R_q_10.cell 1 rfl
          have c_q_2_10 := R_q_10.cell 2 rfl
          have c_q_3_10 := R_q_10.cell 3 rfl
          have c_q_4_10 := R_q_10.cell 4 rfl
          have c_q_5_10 := R_q_10.cell 5 rfl
          have c_q_6_10 := R_q_10.cell 6 rfl
          have c_q_7_10 := R_q_10.cell 7 rfl
          have c_q_8_10 := R_q_10.cell 8 rfl
          have c_q_9_10 := R_q_10.cell 9 rfl
          have c_q_10_10 := R_q_10.cell 10 rfl
          have c_q_11_10 := R_q_10.cell 11 rfl
          have c_q_12_10 := R_q_10.cell 12 rfl
          have c_q_13_10 := R_q_10.cell 13 rfl
          have c_q_14_10 := R_q_10.cell 14 rfl
          have c_q_15_10 := R_q_10.cell 15 rfl
          have d_q_10 := ldV_row R_q_10 rfl
          have l_q_10 := R_q_10.lt
          have HB10 : Below w.heap.size w w10 := by (repeat' (first | (with_reducible exact Below.refl _ _) | (with_reducible assumption) | (with_reducible exact Bw.out (by with_reducible assumption)) | (with_reducible refine bw_alloc ?_ _) | (with_reducible refine bw_step ?_ (by with_reducible assumption)) | (with_reducible refine Below.alloc ?_ ?_ _) | (with_reducible refine Below.drew ?_) | (with_reducible refine below_drewN ?_ _) | (with_reducible refine Below.setCell ?_ ?_ _) | (with_reducible refine below_step ?_ (by with_reducible assumption) ?_) | (with_reducible exact Nat.le_refl _) | omega | (simp; omega) | (simp; done)))
          clear R_q_9 c_q_0_9 c_q_1_9 c_q_2_9 c_q_3_9 c_q_4_9 c_q_5_9 c_q_6_9 c_q_7_9 c_q_8_9 c_q_9_9 c_q_10_9 c_q_11_9 c_q_12_9 c_q_13_9 c_q_14_9 c_q_15_9 d_q_9 R_x_9 c_x_0_9 c_x_1_9 c_x_2_9 c_x_3_9 c_x_4_9 c_x_5_9 c_x_6_9 c_x_7_9 c_x_8_9 c_x_9_9 c_x_10_9 c_x_11_9 c_x_12_9 c_x_13_9 c_x_14_9 c_x_15_9 d_x_9 hb9 HB9
          clear hc
          go_wp2_with fail
          refine (valid_ra [r] _ 1 1 _ (by omega) (slr_new [r] _ _ rfl rfl (mem1 (HRI.out.step HB10)) 1 rfl) true HV1.out.1).mono ?_
          rintro e w11 ⟨rfl, hb11⟩
          have R_q_11 : Row w11 (w.heap.size) [.int .i64 r.id, .int .i64 r.lv, .int .i64 r.kd, .int .i64 r.fr, .int .i64 r.un, .int .i64 r.ls, .int .i64 r.ms, .int .i64 r.ar, .int .i64 r.kn, .int .i64 r.kk, .int .i64 r.wh.op, .int .i64 r.wh.n, .slice r.wh.at' r.wh.ks.length r.wh.cap, .int .i64 r.pr.op, .int .i64 r.pr.n, .slice r.pr.at' r.pr.ks.length r.pr.cap] := by (repeat' (first | (with_reducible assumption) | (with_reducible refine Row.new' _ _ _ (by first | rfl | (simp; done) | omega)) | (with_reducible refine Row.alloc ?_ _) | (with_reducible refine Row.drew ?_) | (with_reducible refine Row.drewN ?_ _) | (with_reducible refine Row.step ?_ (by with_reducible assumption)) | (with_reducible refine Row.set2' ?_ _ _; first | exact ⟨_, _, by with_reducible assumption⟩ | exact ⟨_, _, Row.alloc (by with_reducible assumption) _⟩ | exact ⟨_, _, Row.alloc (Row.alloc (by with_reducible assumption) _) _⟩) | (with_reducible refine Row.other ?_ (by first | omega | (simp; done) | (simp; omega)) _)))
          have c_q_0_11 := R_q_11.cell 0 rfl
          have c_q_1_11 := R_q_11.cell 1 rfl
          have c_q_2_11 := R_q_11.cell 2 rfl
          have c_q_3_11 := R_q_11.cell 3 rfl
          have c_q_4_11 := R_q_11.cell 4 rfl
          have c_q_5_11 := R_q_11.cell 5 rfl
          have c_q_6_11 := R_q_11.cell 6 rfl
          have c_q_7_11 := R_q_11.cell 7 rfl
          have c_q_8_11 := R_q_11.cell 8 rfl
          have c_q_9_11 := R_q_11.cell 9 rfl
          have c_q_10_11 := R_q_11.cell 10 rfl
          have c_q_11_11 := R_q_11.cell 11 rfl
          have c_q_12_11 := R_q_11.cell 12 rfl
          have c_q_13_11 := R_q_11.cell 13 rfl
          have c_q_14_11 := R_q_11.cell 14 rfl
          have c_q_15_11 := R_q_11.cell 15 rfl
          have d_q_11 := ldV_row R_q_11 rfl
          have l_q_11 := R_q_11.lt
          have HB11 : Below w.heap.size w w11 := by (repeat' (first | (with_reducible exact Below.refl _ _) | (with_reducible assumption) | (with_reducible exact Bw.out (by with_reducible assumption)) | (with_reducible refine bw_alloc ?_ _) | (with_reducible refine bw_step ?_ (by with_reducible assumption)) | (with_reducible refine Below.alloc ?_ ?_ _) | (with_reducible refine Below.drew ?_) | (with_reducible refine below_drewN ?_ _) | (with_reducible refine Below.setCell ?_ ?_ _) | (with_reducible refine below_step ?_ (by with_reducible assumption) ?_) | (with_reducible exact Nat.le_refl _) | omega | (simp; omega) | (simp; done)))
          clear R_q_10 c_q_0_10 c_q_1_10 c_q_2_10 c_q_3_10 c_q_4_10 c_q_5_10 c_q_6_10 c_q_7_10 c_q_8_10 c_q_9_10 c_q_10_10 c_q_11_10 c_q_12_10 c_q_13_10 c_q_14_10 c_q_15_10 d_q_10 hb10 HB10
          go_wp2_with fail
          refine (valid_ra [r, r] _ 2 2 _ (by omega) (slr_new [r, r] _ _ rfl rfl (mem2 (HRI.out.step HB11)) 2 rfl) false HV1.out.2).mono ?_
          rintro e w12 ⟨rfl, hb12⟩
          have R_q_12 : Row w12 (w.heap.size) [.int .i64 r.id, .int .i64 r.lv, .int .i64 r.kd, .int .i64 r.fr, .int .i64 r.un, .int .i64 r.ls, .int .i64 r.ms, .int .i64 r.ar, .int .i64 r.kn, .int .i64 r.kk, .int .i64 r.wh.op, .int .i64 r.wh.n, .slice r.wh.at' r.wh.ks.length r.wh.cap, .int .i64 r.pr.op, .int .i64 r.pr.n, .slice r.pr.at' r.pr.ks.length r.pr.cap] := by (repeat' (first | (with_reducible assumption) | (with_reducible refine Row.new' _ _ _ (by first | rfl | (simp; done) | omega)) | (with_reducible refine Row.alloc ?_ _) | (with_reducible refine Row.drew ?_) | (with_reducible refine Row.drewN ?_ _) | (with_reducible refine Row.step ?_ (by with_reducible assumption)) | (with_reducible refine Row.set2' ?_ _ _; first | exact ⟨_, _, by with_reducible assumption⟩ | exact ⟨_, _, Row.alloc (by with_reducible assumption) _⟩ | exact ⟨_, _, Row.alloc (Row.alloc (by with_reducible assumption) _) _⟩) | (with_reducible refine Row.other ?_ (by first | omega | (simp; done) | (simp; omega)) _)))
          have c_q_0_12 := R_q_12.cell 0 rfl
          have c_q_1_12 := R_q_12.cell 1 rfl
          have c_q_2_12 := R_q_12.cell 2 rfl
          have c_q_3_12 := R_q_12.cell 3 rfl
          have c_q_4_12 := R_q_12.cell 4 rfl
          have c_q_5_12 := R_q_12.cell 5 rfl
          have c_q_6_12 := R_q_12.cell 6 rfl
          have c_q_7_12 := R_q_12.cell 7 rfl
          have c_q_8_12 := R_q_12.cell 8 rfl
          have c_q_9_12 := R_q_12.cell 9 rfl
          have c_q_10_12 := R_q_12.cell 10 rfl
          have c_q_11_12 := R_q_12.cell 11 rfl
          have c_q_12_12 := R_q_12.cell 12 rfl
          have c_q_13_12 := R_q_12.cell 13 rfl
          have c_q_14_12 := R_q_12.cell 14 rfl
          have c_q_15_12 := R_q_12.cell 15 rfl
          have d_q_12 := ldV_row R_q_12 rfl
          have l_q_12 := R_q_12.lt
          have HB12 : Below w.heap.size w w12 := by (repeat' (first | (with_reducible exact Below.refl _ _) | (with_reducible assumption) | (with_reducible exact Bw.out (by with_reducible assumption)) | (with_reducible refine bw_alloc ?_ _) | (with_reducible refine bw_step ?_ (by with_reducible assumption)) | (with_reducible refine Below.alloc ?_ ?_ _) | (with_reducible refine Below.drew ?_) | (with_reducible refine below_drewN ?_ _) | (with_reducible refine Below.setCell ?_ ?_ _) | (with_reducible refine below_step ?_ (by with_reducible assumption) ?_) | (with_reducible exact Nat.le_refl _) | omega | (simp; omega) | (simp; done)))
          clear R_q_11 c_q_0_11 c_q_1_11 c_q_2_11 c_q_3_11 c_q_4_11 c_q_5_11 c_q_6_11 c_q_7_11 c_q_8_11 c_q_9_11 c_q_10_11 c_q_11_11 c_q_12_11 c_q_13_11 c_q_14_11 c_q_15_11 d_q_11 hb11 HB11
          go_wp2_with fail
          go_ret
          refine ⟨(by first | rfl | exact ret_bool (by first | rfl | (simp; done) | (simp; omega))), ?_⟩
          (repeat' (first | (with_reducible exact Below.refl _ _) | (with_reducible assumption) | (with_reducible exact Bw.out (by with_reducible assumption)) | (with_reducible refine bw_alloc ?_ _) | (with_reducible refine bw_step ?_ (by with_reducible assumption)) | (with_reducible refine Below.alloc ?_ ?_ _) | (with_reducible refine Below.drew ?_) | (with_reducible refine below_drewN ?_ _) | (with_reducible refine Below.setCell ?_ ?_ _) | (with_reducible refine below_step ?_ (by with_reducible assumption) ?_) | (with_reducible exact Nat.le_refl _) | omega | (simp; omega) | (simp; done)))
        ·
          go_wp2_with fail
          refine (rate_pe { r with ms := 61 } _ (HRI.out.step (HB9.alloc HB9.size _)) false 1 (rate_no (bad8 r))).mono ?_
          rintro e w10 ⟨rfl, hb10⟩
          have R_q_10 : Row w10 (w.heap.size) [.int .i64 r.id, .int .i64 r.lv, .int .i64 r.kd, .int .i64 r.fr, .int .i64 r.un, .int .i64 r.ls, .int .i64 r.ms, .int .i64 r.ar, .int .i64 r.kn, .int .i64 r.kk, .int .i64 r.wh.op, .int .i64 r.wh.n, .slice r.wh.at' r.wh.ks.length r.wh.cap, .int .i64 r.pr.op, .int .i64 r.pr.n, .slice r.pr.at' r.pr.ks.length r.pr.cap] := by (repeat' (first | (with_reducible assumption) | (with_reducible refine Row.new' _ _ _ (by first | rfl | (simp; done) | omega)) | (with_reducible refine Row.alloc ?_ _) | (with_reducible refine Row.drew ?_) | (with_reducible refine Row.drewN ?_ _) | (with_reducible refine Row.step ?_ (by with_reducible assumption)) | (with_reducible refine Row.set2' ?_ _ _; first | exact ⟨_, _, by with_reducible assumption⟩ | exact ⟨_, _, Row.alloc (by with_reducible assumption) _⟩ | exact ⟨_, _, Row.alloc (Row.alloc (by with_reducible assumption) _) _⟩) | (with_reducible refine Row.other ?_ (by first | omega | (simp; done) | (simp; omega)) _)))
          have c_q_0_10 := R_q_10.cell 0 rfl
          have c_q_1_10 := R_q_10.cell 1 rfl
          have c_q_2_10 := R_q_10.cell 2 rfl
          have c_q_3_10 := R_q_10.cell 3 rfl
          have c_q_4_10 := R_q_10.cell 4 rfl
          have c_q_5_10 := R_q_10.cell 5 rfl
          have c_q_6_10 := R_q_10.cell 6 rfl
          have c_q_7_10 := R_q_10.cell 7 rfl
          have c_q_8_10 := R_q_10.cell 8 rfl
          have c_q_9_10 := R_q_10.cell 9 rfl
          have c_q_10_10 := R_q_10.cell 10 rfl
          have c_q_11_10 := R_q_10.cell 11 rfl
          have c_q_12_10 := R_q_10.cell 12 rfl
          have c_q_13_10 := R_q_10.cell 13 rfl
          have c_q_14_10 := R_q_10.cell 14 rfl
          have c_q_15_10 := R_q_10.cell 15 rfl
          have d_q_10 := ldV_row R_q_10 rfl
          have l_q_10 := R_q_10.lt
          have HB10 : Below w.heap.size w w10 := by (repeat' (first | (with_reducible exact Below.refl _ _) | (with_reducible assumption) | (with_reducible exact Bw.out (by with_reducible assumption)) | (with_reducible refine bw_alloc ?_ _) | (with_reducible refine bw_step ?_ (by with_reducible assumption)) | (with_reducible refine Below.alloc ?_ ?_ _) | (with_reducible refine Below.drew ?_) | (with_reducible refine below_drewN ?_ _) | (with_reducible refine Below.setCell ?_ ?_ _) | (with_reducible refine below_step ?_ (by with_reducible assumption) ?_) | (with_reducible exact Nat.le_refl _) | omega | (simp; omega) | (simp; done)))
          clear R_q_9 c_q_0_9 c_q_1_9 c_q_2_9 c_q_3_9 c_q_4_9 c_q_5_9 c_q_6_9 c_q_7_9 c_q_8_9 c_q_9_9 c_q_10_9 c_q_11_9 c_q_12_9 c_q_13_9 c_q_14_9 c_q_15_9 d_q_9 R_x_9 c_x_0_9 c_x_1_9 c_x_2_9 c_x_3_9 c_x_4_9 c_x_5_9 c_x_6_9 c_x_7_9 c_x_8_9 c_x_9_9 c_x_10_9 c_x_11_9 c_x_12_9 c_x_13_9 c_x_14_9 c_x_15_9 d_x_9 hb9 HB9
          clear hc
          go_wp2_with fail
          refine (valid_ra [r] _ 1 1 _ (by omega) (slr_new [r] _ _ rfl rfl (mem1 (HRI.out.step HB10)) 1 rfl) true HV1.out.1).mono ?_
          rintro e w11 ⟨rfl, hb11⟩
          have R_q_11 : Row w11 (w.heap.size) [.int .i64 r.id, .int .i64 r.lv, .int .i64 r.kd, .int .i64 r.fr, .int .i64 r.un, .int .i64 r.ls, .int .i64 r.ms, .int .i64 r.ar, .int .i64 r.kn, .int .i64 r.kk, .int .i64 r.wh.op, .int .i64 r.wh.n, .slice r.wh.at' r.wh.ks.length r.wh.cap, .int .i64 r.pr.op, .int .i64 r.pr.n, .slice r.pr.at' r.pr.ks.length r.pr.cap] := by (repeat' (first | (with_reducible assumption) | (with_reducible refine Row.new' _ _ _ (by first | rfl | (simp; done) | omega)) | (with_reducible refine Row.alloc ?_ _) | (with_reducible refine Row.drew ?_) | (with_reducible refine Row.drewN ?_ _) | (with_reducible refine Row.step ?_ (by with_reducible assumption)) | (with_reducible refine Row.set2' ?_ _ _; first | exact ⟨_, _, by with_reducible assumption⟩ | exact ⟨_, _, Row.alloc (by with_reducible assumption) _⟩ | exact ⟨_, _, Row.alloc (Row.alloc (by with_reducible assumption) _) _⟩) | (with_reducible refine Row.other ?_ (by first | omega | (simp; done) | (simp; omega)) _)))
          have c_q_0_11 := R_q_11.cell 0 rfl
          have c_q_1_11 := R_q_11.cell 1 rfl
          have c_q_2_11 := R_q_11.cell 2 rfl
          have c_q_3_11 := R_q_11.cell 3 rfl
          have c_q_4_11 := R_q_11.cell 4 rfl
          have c_q_5_11 := R_q_11.cell 5 rfl
          have c_q_6_11 := R_q_11.cell 6 rfl
          have c_q_7_11 := R_q_11.cell 7 rfl
          have c_q_8_11 := R_q_11.cell 8 rfl
          have c_q_9_11 := R_q_11.cell 9 rfl
          have c_q_10_11 := R_q_11.cell 10 rfl
          have c_q_11_11 := R_q_11.cell 11 rfl
          have c_q_12_11 := R_q_11.cell 12 rfl
          have c_q_13_11 := R_q_11.cell 13 rfl
          have c_q_14_11 := R_q_11.cell 14 rfl
          have c_q_15_11 := R_q_11.cell 15 rfl
          have d_q_11 := ldV_row R_q_11 rfl
          have l_q_11 := R_q_11.lt
          have HB11 : Below w.heap.size w w11 := by (repeat' (first | (with_reducible exact Below.refl _ _) | (with_reducible assumption) | (with_reducible exact Bw.out (by with_reducible assumption)) | (with_reducible refine bw_alloc ?_ _) | (with_reducible refine bw_step ?_ (by with_reducible assumption)) | (with_reducible refine Below.alloc ?_ ?_ _) | (with_reducible refine Below.drew ?_) | (with_reducible refine below_drewN ?_ _) | (with_reducible refine Below.setCell ?_ ?_ _) | (with_reducible refine below_step ?_ (by with_reducible assumption) ?_) | (with_reducible exact Nat.le_refl _) | omega | (simp; omega) | (simp; done)))
          clear R_q_10 c_q_0_10 c_q_1_10 c_q_2_10 c_q_3_10 c_q_4_10 c_q_5_10 c_q_6_10 c_q_7_10 c_q_8_10 c_q_9_10 c_q_10_10 c_q_11_10 c_q_12_10 c_q_13_10 c_q_14_10 c_q_15_10 d_q_10 hb10 HB10
          go_wp2_with fail
          refine (valid_ra [r, r] _ 2 2 _ (by omega) (slr_new [r, r] _ _ rfl rfl (mem2 (HRI.out.step HB11)) 2 rfl) false HV1.out.2).mono ?_
          rintro e w12 ⟨rfl, hb12⟩
          have R_q_12 : Row w12 (w.heap.size) [.int .i64 r.id, .int .i64 r.lv, .int .i64 r.kd, .int .i64 r.fr, .int .i64 r.un, .int .i64 r.ls, .int .i64 r.ms, .int .i64 r.ar, .int .i64 r.kn, .int .i64 r.kk, .int .i64 r.wh.op, .int .i64 r.wh.n, .slice r.wh.at' r.wh.ks.length r.wh.cap, .int .i64 r.pr.op, .int .i64 r.pr.n, .slice r.pr.at' r.pr.ks.length r.pr.cap] := by (repeat' (first | (with_reducible assumption) | (with_reducible refine Row.new' _ _ _ (by first | rfl | (simp; done) | omega)) | (with_reducible refine Row.alloc ?_ _) | (with_reducible refine Row.drew ?_) | (with_reducible refine Row.drewN ?_ _) | (with_reducible refine Row.step ?_ (by with_reducible assumption)) | (with_reducible refine Row.set2' ?_ _ _; first | exact ⟨_, _, by with_reducible assumption⟩ | exact ⟨_, _, Row.alloc (by with_reducible assumption) _⟩ | exact ⟨_, _, Row.alloc (Row.alloc (by with_reducible assumption) _) _⟩) | (with_reducible refine Row.other ?_ (by first | omega | (simp; done) | (simp; omega)) _)))
          have c_q_0_12 := R_q_12.cell 0 rfl
          have c_q_1_12 := R_q_12.cell 1 rfl
          have c_q_2_12 := R_q_12.cell 2 rfl
          have c_q_3_12 := R_q_12.cell 3 rfl
          have c_q_4_12 := R_q_12.cell 4 rfl
          have c_q_5_12 := R_q_12.cell 5 rfl
          have c_q_6_12 := R_q_12.cell 6 rfl
          have c_q_7_12 := R_q_12.cell 7 rfl
          have c_q_8_12 := R_q_12.cell 8 rfl
          have c_q_9_12 := R_q_12.cell 9 rfl
          have c_q_10_12 := R_q_12.cell 10 rfl
          have c_q_11_12 := R_q_12.cell 11 rfl
          have c_q_12_12 := R_q_12.cell 12 rfl
          have c_q_13_12 := R_q_12.cell 13 rfl
          have c_q_14_12 := R_q_12.cell 14 rfl
          have c_q_15_12 := R_q_12.cell 15 rfl
          have d_q_12 := ldV_row R_q_12 rfl
          have l_q_12 := R_q_12.lt
          have HB12 : Below w.heap.size w w12 := by (repeat' (first | (with_reducible exact Below.refl _ _) | (with_reducible assumption) | (with_reducible exact Bw.out (by with_reducible assumption)) | (with_reducible refine bw_alloc ?_ _) | (with_reducible refine bw_step ?_ (by with_reducible assumption)) | (with_reducible refine Below.alloc ?_ ?_ _) | (with_reducible refine Below.drew ?_) | (with_reducible refine below_drewN ?_ _) | (with_reducible refine Below.setCell ?_ ?_ _) | (with_reducible refine below_step ?_ (by with_reducible assumption) ?_) | (with_reducible exact Nat.le_refl _) | omega | (simp; omega) | (simp; done)))
          clear R_q_11 c_q_0_11 c_q_1_11 c_q_2_11 c_q_3_11 c_q_4_11 c_q_5_11 c_q_6_11 c_q_7_11 c_q_8_11 c_q_9_11 c_q_10_11 c_q_11_11 c_q_12_11 c_q_13_11 c_q_14_11 c_q_15_11 d_q_11 hb11 HB11
          go_wp2_with fail
          go_ret
          refine ⟨(by first | rfl | exact ret_bool (by first | rfl | (simp; done) | (simp; omega))), ?_⟩
          (repeat' (first | (with_reducible exact Below.refl _ _) | (with_reducible assumption) | (with_reducible exact Bw.out (by with_reducible assumption)) | (with_reducible refine bw_alloc ?_ _) | (with_reducible refine bw_step ?_ (by with_reducible assumption)) | (with_reducible refine Below.alloc ?_ ?_ _) | (with_reducible refine Below.drew ?_) | (with_reducible refine below_drewN ?_ _) | (with_reducible refine Below.setCell ?_ ?_ _) | (with_reducible refine below_step ?_ (by with_reducible assumption) ?_) | (with_reducible exact Nat.le_refl _) | omega | (simp; omega) | (simp; done)))
        ·
          go_wp2_with fail
          refine (rate_pe { r with ar := 128 } _ (HRI.out.step (HB9.alloc HB9.size _)) false 1 (rate_no (bad9 r))).mono ?_
          rintro e w10 ⟨rfl, hb10⟩
          have R_q_10 : Row w10 (w.heap.size) [.int .i64 r.id, .int .i64 r.lv, .int .i64 r.kd, .int .i64 r.fr, .int .i64 r.un, .int .i64 r.ls, .int .i64 r.ms, .int .i64 r.ar, .int .i64 r.kn, .int .i64 r.kk, .int .i64 r.wh.op, .int .i64 r.wh.n, .slice r.wh.at' r.wh.ks.length r.wh.cap, .int .i64 r.pr.op, .int .i64 r.pr.n, .slice r.pr.at' r.pr.ks.length r.pr.cap] := by (repeat' (first | (with_reducible assumption) | (with_reducible refine Row.new' _ _ _ (by first | rfl | (simp; done) | omega)) | (with_reducible refine Row.alloc ?_ _) | (with_reducible refine Row.drew ?_) | (with_reducible refine Row.drewN ?_ _) | (with_reducible refine Row.step ?_ (by with_reducible assumption)) | (with_reducible refine Row.set2' ?_ _ _; first | exact ⟨_, _, by with_reducible assumption⟩ | exact ⟨_, _, Row.alloc (by with_reducible assumption) _⟩ | exact ⟨_, _, Row.alloc (Row.alloc (by with_reducible assumption) _) _⟩) | (with_reducible refine Row.other ?_ (by first | omega | (simp; done) | (simp; omega)) _)))
          have c_q_0_10 := R_q_10.cell 0 rfl
          have c_q_1_10 := R_q_10.cell 1 rfl
          have c_q_2_10 := R_q_10.cell 2 rfl
          have c_q_3_10 := R_q_10.cell 3 rfl
          have c_q_4_10 := R_q_10.cell 4 rfl
          have c_q_5_10 := R_q_10.cell 5 rfl
          have c_q_6_10 := R_q_10.cell 6 rfl
          have c_q_7_10 := R_q_10.cell 7 rfl
          have c_q_8_10 := R_q_10.cell 8 rfl
          have c_q_9_10 := R_q_10.cell 9 rfl
          have c_q_10_10 := R_q_10.cell 10 rfl
          have c_q_11_10 := R_q_10.cell 11 rfl
          have c_q_12_10 := R_q_10.cell 12 rfl
          have c_q_13_10 := R_q_10.cell 13 rfl
          have c_q_14_10 := R_q_10.cell 14 rfl
          have c_q_15_10 := R_q_10.cell 15 rfl
          have d_q_10 := ldV_row R_q_10 rfl
          have l_q_10 := R_q_10.lt
          have HB10 : Below w.heap.size w w10 := by (repeat' (first | (with_reducible exact Below.refl _ _) | (with_reducible assumption) | (with_reducible exact Bw.out (by with_reducible assumption)) | (with_reducible refine bw_alloc ?_ _) | (with_reducible refine bw_step ?_ (by with_reducible assumption)) | (with_reducible refine Below.alloc ?_ ?_ _) | (with_reducible refine Below.drew ?_) | (with_reducible refine below_drewN ?_ _) | (with_reducible refine Below.setCell ?_ ?_ _) | (with_reducible refine below_step ?_ (by with_reducible assumption) ?_) | (with_reducible exact Nat.le_refl _) | omega | (simp; omega) | (simp; done)))
          clear R_q_9 c_q_0_9 c_q_1_9 c_q_2_9 c_q_3_9 c_q_4_9 c_q_5_9 c_q_6_9 c_q_7_9 c_q_8_9 c_q_9_9 c_q_10_9 c_q_11_9 c_q_12_9 c_q_13_9 c_q_14_9 c_q_15_9 d_q_9 R_x_9 c_x_0_9 c_x_1_9 c_x_2_9 c_x_3_9 c_x_4_9 c_x_5_9 c_x_6_9 c_x_7_9 c_x_8_9 c_x_9_9 c_x_10_9 c_x_11_9 c_x_12_9 c_x_13_9 c_x_14_9 c_x_15_9 d_x_9 hb9 HB9
          clear hc
          go_wp2_with fail
          refine (valid_ra [r] _ 1 1 _ (by omega) (slr_new [r] _ _ rfl rfl (mem1 (HRI.out.step HB10)) 1 rfl) true HV1.out.1).mono ?_
          rintro e w11 ⟨rfl, hb11⟩
          have R_q_11 : Row w11 (w.heap.size) [.int .i64 r.id, .int .i64 r.lv, .int .i64 r.kd, .int .i64 r.fr, .int .i64 r.un, .int .i64 r.ls, .int .i64 r.ms, .int .i64 r.ar, .int .i64 r.kn, .int .i64 r.kk, .int .i64 r.wh.op, .int .i64 r.wh.n, .slice r.wh.at' r.wh.ks.length r.wh.cap, .int .i64 r.pr.op, .int .i64 r.pr.n, .slice r.pr.at' r.pr.ks.length r.pr.cap] := by (repeat' (first | (with_reducible assumption) | (with_reducible refine Row.new' _ _ _ (by first | rfl | (simp; done) | omega)) | (with_reducible refine Row.alloc ?_ _) | (with_reducible refine Row.drew ?_) | (with_reducible refine Row.drewN ?_ _) | (with_reducible refine Row.step ?_ (by with_reducible assumption)) | (with_reducible refine Row.set2' ?_ _ _; first | exact ⟨_, _, by with_reducible assumption⟩ | exact ⟨_, _, Row.alloc (by with_reducible assumption) _⟩ | exact ⟨_, _, Row.alloc (Row.alloc (by with_reducible assumption) _) _⟩) | (with_reducible refine Row.other ?_ (by first | omega | (simp; done) | (simp; omega)) _)))
          have c_q_0_11 := R_q_11.cell 0 rfl
          have c_q_1_11 := R_q_11.cell 1 rfl
          have c_q_2_11 := R_q_11.cell 2 rfl
          have c_q_3_11 := R_q_11.cell 3 rfl
          have c_q_4_11 := R_q_11.cell 4 rfl
          have c_q_5_11 := R_q_11.cell 5 rfl
          have c_q_6_11 := R_q_11.cell 6 rfl
          have c_q_7_11 := R_q_11.cell 7 rfl
          have c_q_8_11 := R_q_11.cell 8 rfl
          have c_q_9_11 := R_q_11.cell 9 rfl
          have c_q_10_11 := R_q_11.cell 10 rfl
          have c_q_11_11 := R_q_11.cell 11 rfl
          have c_q_12_11 := R_q_11.cell 12 rfl
          have c_q_13_11 := R_q_11.cell 13 rfl
          have c_q_14_11 := R_q_11.cell 14 rfl
          have c_q_15_11 := R_q_11.cell 15 rfl
          have d_q_11 := ldV_row R_q_11 rfl
          have l_q_11 := R_q_11.lt
          have HB11 : Below w.heap.size w w11 := by (repeat' (first | (with_reducible exact Below.refl _ _) | (with_reducible assumption) | (with_reducible exact Bw.out (by with_reducible assumption)) | (with_reducible refine bw_alloc ?_ _) | (with_reducible refine bw_step ?_ (by with_reducible assumption)) | (with_reducible refine Below.alloc ?_ ?_ _) | (with_reducible refine Below.drew ?_) | (with_reducible refine below_drewN ?_ _) | (with_reducible refine Below.setCell ?_ ?_ _) | (with_reducible refine below_step ?_ (by with_reducible assumption) ?_) | (with_reducible exact Nat.le_refl _) | omega | (simp; omega) | (simp; done)))
          clear R_q_10 c_q_0_10 c_q_1_10 c_q_2_10 c_q_3_10 c_q_4_10 c_q_5_10 c_q_6_10 c_q_7_10 c_q_8_10 c_q_9_10 c_q_10_10 c_q_11_10 c_q_12_10 c_q_13_10 c_q_14_10 c_q_15_10 d_q_10 hb10 HB10
          go_wp2_with fail
          refine (valid_ra [r, r] _ 2 2 _ (by omega) (slr_new [r, r] _ _ rfl rfl (mem2 (HRI.out.step HB11)) 2 rfl) false HV1.out.2).mono ?_
          rintro e w12 ⟨rfl, hb12⟩
          have R_q_12 : Row w12 (w.heap.size) [.int .i64 r.id, .int .i64 r.lv, .int .i64 r.kd, .int .i64 r.fr, .int .i64 r.un, .int .i64 r.ls, .int .i64 r.ms, .int .i64 r.ar, .int .i64 r.kn, .int .i64 r.kk, .int .i64 r.wh.op, .int .i64 r.wh.n, .slice r.wh.at' r.wh.ks.length r.wh.cap, .int .i64 r.pr.op, .int .i64 r.pr.n, .slice r.pr.at' r.pr.ks.length r.pr.cap] := by (repeat' (first | (with_reducible assumption) | (with_reducible refine Row.new' _ _ _ (by first | rfl | (simp; done) | omega)) | (with_reducible refine Row.alloc ?_ _) | (with_reducible refine Row.drew ?_) | (with_reducible refine Row.drewN ?_ _) | (with_reducible refine Row.step ?_ (by with_reducible assumption)) | (with_reducible refine Row.set2' ?_ _ _; first | exact ⟨_, _, by with_reducible assumption⟩ | exact ⟨_, _, Row.alloc (by with_reducible assumption) _⟩ | exact ⟨_, _, Row.alloc (Row.alloc (by with_reducible assumption) _) _⟩) | (with_reducible refine Row.other ?_ (by first | omega | (simp; done) | (simp; omega)) _)))
          have c_q_0_12 := R_q_12.cell 0 rfl
          have c_q_1_12 := R_q_12.cell 1 rfl
          have c_q_2_12 := R_q_12.cell 2 rfl
          have c_q_3_12 := R_q_12.cell 3 rfl
          have c_q_4_12 := R_q_12.cell 4 rfl
          have c_q_5_12 := R_q_12.cell 5 rfl
          have c_q_6_12 := R_q_12.cell 6 rfl
          have c_q_7_12 := R_q_12.cell 7 rfl
          have c_q_8_12 := R_q_12.cell 8 rfl
          have c_q_9_12 := R_q_12.cell 9 rfl
          have c_q_10_12 := R_q_12.cell 10 rfl
          have c_q_11_12 := R_q_12.cell 11 rfl
          have c_q_12_12 := R_q_12.cell 12 rfl
          have c_q_13_12 := R_q_12.cell 13 rfl
          have c_q_14_12 := R_q_12.cell 14 rfl
          have c_q_15_12 := R_q_12.cell 15 rfl
          have d_q_12 := ldV_row R_q_12 rfl
          have l_q_12 := R_q_12.lt
          have HB12 : Below w.heap.size w w12 := by (repeat' (first | (with_reducible exact Below.refl _ _) | (with_reducible assumption) | (with_reducible exact Bw.out (by with_reducible assumption)) | (with_reducible refine bw_alloc ?_ _) | (with_reducible refine bw_step ?_ (by with_reducible assumption)) | (with_reducible refine Below.alloc ?_ ?_ _) | (with_reducible refine Below.drew ?_) | (with_reducible refine below_drewN ?_ _) | (with_reducible refine Below.setCell ?_ ?_ _) | (with_reducible refine below_step ?_ (by with_reducible assumption) ?_) | (with_reducible exact Nat.le_refl _) | omega | (simp; omega) | (simp; done)))
          clear R_q_11 c_q_0_11 c_q_1_11 c_q_2_11 c_q_3_11 c_q_4_11 c_q_5_11 c_q_6_11 c_q_7_11 c_q_8_11 c_q_9_11 c_q_10_11 c_q_11_11 c_q_12_11 c_q_13_11 c_q_14_11 c_q_15_11 d_q_11 hb11 HB11
          go_wp2_with fail
          go_ret
          refine ⟨(by first | rfl | exact ret_bool (by first | rfl | (simp; done) | (simp; omega))), ?_⟩
          (repeat' (first | (with_reducible exact Below.refl _ _) | (with_reducible assumption) | (with_reducible exact Bw.out (by with_reducible assumption)) | (with_reducible refine bw_alloc ?_ _) | (with_reducible refine bw_step ?_ (by with_reducible assumption)) | (with_reducible refine Below.alloc ?_ ?_ _) | (with_reducible refine Below.drew ?_) | (with_reducible refine below_drewN ?_ _) | (with_reducible refine Below.setCell ?_ ?_ _) | (with_reducible refine below_step ?_ (by with_reducible assumption) ?_) | (with_reducible exact Nat.le_refl _) | omega | (simp; omega) | (simp; done)))
        ·
          go_wp2_with fail
          refine (rate_pe { r with kn := r.kk + 1 } _ (HRI.out.step (HB9.alloc HB9.size _)) false 1 (rate_no (bad10 r))).mono ?_
          rintro e w10 ⟨rfl, hb10⟩
          have R_q_10 : Row w10 (w.heap.size) [.int .i64 r.id, .int .i64 r.lv, .int .i64 r.kd, .int .i64 r.fr, .int .i64 r.un, .int .i64 r.ls, .int .i64 r.ms, .int .i64 r.ar, .int .i64 r.kn, .int .i64 r.kk, .int .i64 r.wh.op, .int .i64 r.wh.n, .slice r.wh.at' r.wh.ks.length r.wh.cap, .int .i64 r.pr.op, .int .i64 r.pr.n, .slice r.pr.at' r.pr.ks.length r.pr.cap] := by (repeat' (first | (with_reducible assumption) | (with_reducible refine Row.new' _ _ _ (by first | rfl | (simp; done) | omega)) | (with_reducible refine Row.alloc ?_ _) | (with_reducible refine Row.drew ?_) | (with_reducible refine Row.drewN ?_ _) | (with_reducible refine Row.step ?_ (by with_reducible assumption)) | (with_reducible refine Row.set2' ?_ _ _; first | exact ⟨_, _, by with_reducible assumption⟩ | exact ⟨_, _, Row.alloc (by with_reducible assumption) _⟩ | exact ⟨_, _, Row.alloc (Row.alloc (by with_reducible assumption) _) _⟩) | (with_reducible refine Row.other ?_ (by first | omega | (simp; done) | (simp; omega)) _)))
          have c_q_0_10 := R_q_10.cell 0 rfl
          have c_q_1_10 := R_q_10.cell 1 rfl
          have c_q_2_10 := R_q_10.cell 2 rfl
          have c_q_3_10 := R_q_10.cell 3 rfl
          have c_q_4_10 := R_q_10.cell 4 rfl
          have c_q_5_10 := R_q_10.cell 5 rfl
          have c_q_6_10 := R_q_10.cell 6 rfl
          have c_q_7_10 := R_q_10.cell 7 rfl
          have c_q_8_10 := R_q_10.cell 8 rfl
          have c_q_9_10 := R_q_10.cell 9 rfl
          have c_q_10_10 := R_q_10.cell 10 rfl
          have c_q_11_10 := R_q_10.cell 11 rfl
          have c_q_12_10 := R_q_10.cell 12 rfl
          have c_q_13_10 := R_q_10.cell 13 rfl
          have c_q_14_10 := R_q_10.cell 14 rfl
          have c_q_15_10 := R_q_10.cell 15 rfl
          have d_q_10 := ldV_row R_q_10 rfl
          have l_q_10 := R_q_10.lt
          have HB10 : Below w.heap.size w w10 := by (repeat' (first | (with_reducible exact Below.refl _ _) | (with_reducible assumption) | (with_reducible exact Bw.out (by with_reducible assumption)) | (with_reducible refine bw_alloc ?_ _) | (with_reducible refine bw_step ?_ (by with_reducible assumption)) | (with_reducible refine Below.alloc ?_ ?_ _) | (with_reducible refine Below.drew ?_) | (with_reducible refine below_drewN ?_ _) | (with_reducible refine Below.setCell ?_ ?_ _) | (with_reducible refine below_step ?_ (by with_reducible assumption) ?_) | (with_reducible exact Nat.le_refl _) | omega | (simp; omega) | (simp; done)))
          clear R_q_9 c_q_0_9 c_q_1_9 c_q_2_9 c_q_3_9 c_q_4_9 c_q_5_9 c_q_6_9 c_q_7_9 c_q_8_9 c_q_9_9 c_q_10_9 c_q_11_9 c_q_12_9 c_q_13_9 c_q_14_9 c_q_15_9 d_q_9 R_x_9 c_x_0_9 c_x_1_9 c_x_2_9 c_x_3_9 c_x_4_9 c_x_5_9 c_x_6_9 c_x_7_9 c_x_8_9 c_x_9_9 c_x_10_9 c_x_11_9 c_x_12_9 c_x_13_9 c_x_14_9 c_x_15_9 d_x_9 hb9 HB9
          clear hc
          go_wp2_with fail
          refine (valid_ra [r] _ 1 1 _ (by omega) (slr_new [r] _ _ rfl rfl (mem1 (HRI.out.step HB10)) 1 rfl) true HV1.out.1).mono ?_
          rintro e w11 ⟨rfl, hb11⟩
          have R_q_11 : Row w11 (w.heap.size) [.int .i64 r.id, .int .i64 r.lv, .int .i64 r.kd, .int .i64 r.fr, .int .i64 r.un, .int .i64 r.ls, .int .i64 r.ms, .int .i64 r.ar, .int .i64 r.kn, .int .i64 r.kk, .int .i64 r.wh.op, .int .i64 r.wh.n, .slice r.wh.at' r.wh.ks.length r.wh.cap, .int .i64 r.pr.op, .int .i64 r.pr.n, .slice r.pr.at' r.pr.ks.length r.pr.cap] := by (repeat' (first | (with_reducible assumption) | (with_reducible refine Row.new' _ _ _ (by first | rfl | (simp; done) | omega)) | (with_reducible refine Row.alloc ?_ _) | (with_reducible refine Row.drew ?_) | (with_reducible refine Row.drewN ?_ _) | (with_reducible refine Row.step ?_ (by with_reducible assumption)) | (with_reducible refine Row.set2' ?_ _ _; first | exact ⟨_, _, by with_reducible assumption⟩ | exact ⟨_, _, Row.alloc (by with_reducible assumption) _⟩ | exact ⟨_, _, Row.alloc (Row.alloc (by with_reducible assumption) _) _⟩) | (with_reducible refine Row.other ?_ (by first | omega | (simp; done) | (simp; omega)) _)))
          have c_q_0_11 := R_q_11.cell 0 rfl
          have c_q_1_11 := R_q_11.cell 1 rfl
          have c_q_2_11 := R_q_11.cell 2 rfl
          have c_q_3_11 := R_q_11.cell 3 rfl
          have c_q_4_11 := R_q_11.cell 4 rfl
          have c_q_5_11 := R_q_11.cell 5 rfl
          have c_q_6_11 := R_q_11.cell 6 rfl
          have c_q_7_11 := R_q_11.cell 7 rfl
          have c_q_8_11 := R_q_11.cell 8 rfl
          have c_q_9_11 := R_q_11.cell 9 rfl
          have c_q_10_11 := R_q_11.cell 10 rfl
          have c_q_11_11 := R_q_11.cell 11 rfl
          have c_q_12_11 := R_q_11.cell 12 rfl
          have c_q_13_11 := R_q_11.cell 13 rfl
          have c_q_14_11 := R_q_11.cell 14 rfl
          have c_q_15_11 := R_q_11.cell 15 rfl
          have d_q_11 := ldV_row R_q_11 rfl
          have l_q_11 := R_q_11.lt
          have HB11 : Below w.heap.size w w11 := by (repeat' (first | (with_reducible exact Below.refl _ _) | (with_reducible assumption) | (with_reducible exact Bw.out (by with_reducible assumption)) | (with_reducible refine bw_alloc ?_ _) | (with_reducible refine bw_step ?_ (by with_reducible assumption)) | (with_reducible refine Below.alloc ?_ ?_ _) | (with_reducible refine Below.drew ?_) | (with_reducible refine below_drewN ?_ _) | (with_reducible refine Below.setCell ?_ ?_ _) | (with_reducible refine below_step ?_ (by with_reducible assumption) ?_) | (with_reducible exact Nat.le_refl _) | omega | (simp; omega) | (simp; done)))
          clear R_q_10 c_q_0_10 c_q_1_10 c_q_2_10 c_q_3_10 c_q_4_10 c_q_5_10 c_q_6_10 c_q_7_10 c_q_8_10 c_q_9_10 c_q_10_10 c_q_11_10 c_q_12_10 c_q_13_10 c_q_14_10 c_q_15_10 d_q_10 hb10 HB10
          go_wp2_with fail
          refine (valid_ra [r, r] _ 2 2 _ (by omega) (slr_new [r, r] _ _ rfl rfl (mem2 (HRI.out.step HB11)) 2 rfl) false HV1.out.2).mono ?_
          rintro e w12 ⟨rfl, hb12⟩
          have R_q_12 : Row w12 (w.heap.size) [.int .i64 r.id, .int .i64 r.lv, .int .i64 r.kd, .int .i64 r.fr, .int .i64 r.un, .int .i64 r.ls, .int .i64 r.ms, .int .i64 r.ar, .int .i64 r.kn, .int .i64 r.kk, .int .i64 r.wh.op, .int .i64 r.wh.n, .slice r.wh.at' r.wh.ks.length r.wh.cap, .int .i64 r.pr.op, .int .i64 r.pr.n, .slice r.pr.at' r.pr.ks.length r.pr.cap] := by (repeat' (first | (with_reducible assumption) | (with_reducible refine Row.new' _ _ _ (by first | rfl | (simp; done) | omega)) | (with_reducible refine Row.alloc ?_ _) | (with_reducible refine Row.drew ?_) | (with_reducible refine Row.drewN ?_ _) | (with_reducible refine Row.step ?_ (by with_reducible assumption)) | (with_reducible refine Row.set2' ?_ _ _; first | exact ⟨_, _, by with_reducible assumption⟩ | exact ⟨_, _, Row.alloc (by with_reducible assumption) _⟩ | exact ⟨_, _, Row.alloc (Row.alloc (by with_reducible assumption) _) _⟩) | (with_reducible refine Row.other ?_ (by first | omega | (simp; done) | (simp; omega)) _)))
          have c_q_0_12 := R_q_12.cell 0 rfl
          have c_q_1_12 := R_q_12.cell 1 rfl
          have c_q_2_12 := R_q_12.cell 2 rfl
          have c_q_3_12 := R_q_12.cell 3 rfl
          have c_q_4_12 := R_q_12.cell 4 rfl
          have c_q_5_12 := R_q_12.cell 5 rfl
          have c_q_6_12 := R_q_12.cell 6 rfl
          have c_q_7_12 := R_q_12.cell 7 rfl
          have c_q_8_12 := R_q_12.cell 8 rfl
          have c_q_9_12 := R_q_12.cell 9 rfl
          have c_q_10_12 := R_q_12.cell 10 rfl
          have c_q_11_12 := R_q_12.cell 11 rfl
          have c_q_12_12 := R_q_12.cell 12 rfl
          have c_q_13_12 := R_q_12.cell 13 rfl
          have c_q_14_12 := R_q_12.cell 14 rfl
          have c_q_15_12 := R_q_12.cell 15 rfl
          have d_q_12 := ldV_row R_q_12 rfl
          have l_q_12 := R_q_12.lt
          have HB12 : Below w.heap.size w w12 := by (repeat' (first | (with_reducible exact Below.refl _ _) | (with_reducible assumption) | (with_reducible exact Bw.out (by with_reducible assumption)) | (with_reducible refine bw_alloc ?_ _) | (with_reducible refine bw_step ?_ (by with_reducible assumption)) | (with_reducible refine Below.alloc ?_ ?_ _) | (with_reducible refine Below.drew ?_) | (with_reducible refine below_drewN ?_ _) | (with_reducible refine Below.setCell ?_ ?_ _) | (with_reducible refine below_step ?_ (by with_reducible assumption) ?_) | (with_reducible exact Nat.le_refl _) | omega | (simp; omega) | (simp; done)))
          clear R_q_11 c_q_0_11 c_q_1_11 c_q_2_11 c_q_3_11 c_q_4_11 c_q_5_11 c_q_6_11 c_q_7_11 c_q_8_11 c_q_9_11 c_q_10_11 c_q_11_11 c_q_12_11 c_q_13_11 c_q_14_11 c_q_15_11 d_q_11 hb11 HB11
          go_wp2_with fail
          go_ret
          refine ⟨(by first | rfl | exact ret_bool (by first | rfl | (simp; done) | (simp; omega))), ?_⟩
          (repeat' (first | (with_reducible exact Below.refl _ _) | (with_reducible assumption) | (with_reducible exact Bw.out (by with_reducible assumption)) | (with_reducible refine bw_alloc ?_ _) | (with_reducible refine bw_step ?_ (by with_reducible assumption)) | (with_reducible refine Below.alloc ?_ ?_ _) | (with_reducible refine Below.drew ?_) | (with_reducible refine below_drewN ?_ _) | (with_reducible refine Below.setCell ?_ ?_ _) | (with_reducible refine below_step ?_ (by with_reducible assumption) ?_) | (with_reducible exact Nat.le_refl _) | omega | (simp; omega) | (simp; done)))
        ·
          go_wp2_with fail
          refine (rate_pe { r with ls := 0 } _ (HRI.out.step (HB9.alloc HB9.size _)) false 1 (rate_no (bad11 r))).mono ?_
          rintro e w10 ⟨rfl, hb10⟩
          have R_q_10 : Row w10 (w.heap.size) [.int .i64 r.id, .int .i64 r.lv, .int .i64 r.kd, .int .i64 r.fr, .int .i64 r.un, .int .i64 r.ls, .int .i64 r.ms, .int .i64 r.ar, .int .i64 r.kn, .int .i64 r.kk, .int .i64 r.wh.op, .int .i64 r.wh.n, .slice r.wh.at' r.wh.ks.length r.wh.cap, .int .i64 r.pr.op, .int .i64 r.pr.n, .slice r.pr.at' r.pr.ks.length r.pr.cap] := by (repeat' (first | (with_reducible assumption) | (with_reducible refine Row.new' _ _ _ (by first | rfl | (simp; done) | omega)) | (with_reducible refine Row.alloc ?_ _) | (with_reducible refine Row.drew ?_) | (with_reducible refine Row.drewN ?_ _) | (with_reducible refine Row.step ?_ (by with_reducible assumption)) | (with_reducible refine Row.set2' ?_ _ _; first | exact ⟨_, _, by with_reducible assumption⟩ | exact ⟨_, _, Row.alloc (by with_reducible assumption) _⟩ | exact ⟨_, _, Row.alloc (Row.alloc (by with_reducible assumption) _) _⟩) | (with_reducible refine Row.other ?_ (by first | omega | (simp; done) | (simp; omega)) _)))
          have c_q_0_10 := R_q_10.cell 0 rfl
          have c_q_1_10 := R_q_10.cell 1 rfl
          have c_q_2_10 := R_q_10.cell 2 rfl
          have c_q_3_10 := R_q_10.cell 3 rfl
          have c_q_4_10 := R_q_10.cell 4 rfl
          have c_q_5_10 := R_q_10.cell 5 rfl
          have c_q_6_10 := R_q_10.cell 6 rfl
          have c_q_7_10 := R_q_10.cell 7 rfl
          have c_q_8_10 := R_q_10.cell 8 rfl
          have c_q_9_10 := R_q_10.cell 9 rfl
          have c_q_10_10 := R_q_10.cell 10 rfl
          have c_q_11_10 := R_q_10.cell 11 rfl
          have c_q_12_10 := R_q_10.cell 12 rfl
          have c_q_13_10 := R_q_10.cell 13 rfl
          have c_q_14_10 := R_q_10.cell 14 rfl
          have c_q_15_10 := R_q_10.cell 15 rfl
          have d_q_10 := ldV_row R_q_10 rfl
          have l_q_10 := R_q_10.lt
          have HB10 : Below w.heap.size w w10 := by (repeat' (first | (with_reducible exact Below.refl _ _) | (with_reducible assumption) | (with_reducible exact Bw.out (by with_reducible assumption)) | (with_reducible refine bw_alloc ?_ _) | (with_reducible refine bw_step ?_ (by with_reducible assumption)) | (with_reducible refine Below.alloc ?_ ?_ _) | (with_reducible refine Below.drew ?_) | (with_reducible refine below_drewN ?_ _) | (with_reducible refine Below.setCell ?_ ?_ _) | (with_reducible refine below_step ?_ (by with_reducible assumption) ?_) | (with_reducible exact Nat.le_refl _) | omega | (simp; omega) | (simp; done)))
          clear R_q_9 c_q_0_9 c_q_1_9 c_q_2_9 c_q_3_9 c_q_4_9 c_q_5_9 c_q_6_9 c_q_7_9 c_q_8_9 c_q_9_9 c_q_10_9 c_q_11_9 c_q_12_9 c_q_13_9 c_q_14_9 c_q_15_9 d_q_9 R_x_9 c_x_0_9 c_x_1_9 c_x_2_9 c_x_3_9 c_x_4_9 c_x_5_9 c_x_6_9 c_x_7_9 c_x_8_9 c_x_9_9 c_x_10_9 c_x_11_9 c_x_12_9 c_x_13_9 c_x_14_9 c_x_15_9 d_x_9 hb9 HB9
          clear hc
          go_wp2_with fail
          refine (valid_ra [r] _ 1 1 _ (by omega) (slr_new [r] _ _ rfl rfl (mem1 (HRI.out.step HB10)) 1 rfl) true HV1.out.1).mono ?_
          rintro e w11 ⟨rfl, hb11⟩
          have R_q_11 : Row w11 (w.heap.size) [.int .i64 r.id, .int .i64 r.lv, .int .i64 r.kd, .int .i64 r.fr, .int .i64 r.un, .int .i64 r.ls, .int .i64 r.ms, .int .i64 r.ar, .int .i64 r.kn, .int .i64 r.kk, .int .i64 r.wh.op, .int .i64 r.wh.n, .slice r.wh.at' r.wh.ks.length r.wh.cap, .int .i64 r.pr.op, .int .i64 r.pr.n, .slice r.pr.at' r.pr.ks.length r.pr.cap] := by (repeat' (first | (with_reducible assumption) | (with_reducible refine Row.new' _ _ _ (by first | rfl | (simp; done) | omega)) | (with_reducible refine Row.alloc ?_ _) | (with_reducible refine Row.drew ?_) | (with_reducible refine Row.drewN ?_ _) | (with_reducible refine Row.step ?_ (by with_reducible assumption)) | (with_reducible refine Row.set2' ?_ _ _; first | exact ⟨_, _, by with_reducible assumption⟩ | exact ⟨_, _, Row.alloc (by with_reducible assumption) _⟩ | exact ⟨_, _, Row.alloc (Row.alloc (by with_reducible assumption) _) _⟩) | (with_reducible refine Row.other ?_ (by first | omega | (simp; done) | (simp; omega)) _)))
          have c_q_0_11 := R_q_11.cell 0 rfl
          have c_q_1_11 := R_q_11.cell 1 rfl
          have c_q_2_11 := R_q_11.cell 2 rfl
          have c_q_3_11 := R_q_11.cell 3 rfl
          have c_q_4_11 := R_q_11.cell 4 rfl
          have c_q_5_11 := R_q_11.cell 5 rfl
          have c_q_6_11 := R_q_11.cell 6 rfl
          have c_q_7_11 := R_q_11.cell 7 rfl
          have c_q_8_11 := R_q_11.cell 8 rfl
          have c_q_9_11 := R_q_11.cell 9 rfl
          have c_q_10_11 := R_q_11.cell 10 rfl
          have c_q_11_11 := R_q_11.cell 11 rfl
          have c_q_12_11 := R_q_11.cell 12 rfl
          have c_q_13_11 := R_q_11.cell 13 rfl
          have c_q_14_11 := R_q_11.cell 14 rfl
          have c_q_15_11 := R_q_11.cell 15 rfl
          have d_q_11 := ldV_row R_q_11 rfl
          have l_q_11 := R_q_11.lt
          have HB11 : Below w.heap.size w w11 := by (repeat' (first | (with_reducible exact Below.refl _ _) | (with_reducible assumption) | (with_reducible exact Bw.out (by with_reducible assumption)) | (with_reducible refine bw_alloc ?_ _) | (with_reducible refine bw_step ?_ (by with_reducible assumption)) | (with_reducible refine Below.alloc ?_ ?_ _) | (with_reducible refine Below.drew ?_) | (with_reducible refine below_drewN ?_ _) | (with_reducible refine Below.setCell ?_ ?_ _) | (with_reducible refine below_step ?_ (by with_reducible assumption) ?_) | (with_reducible exact Nat.le_refl _) | omega | (simp; omega) | (simp; done)))
          clear R_q_10 c_q_0_10 c_q_1_10 c_q_2_10 c_q_3_10 c_q_4_10 c_q_5_10 c_q_6_10 c_q_7_10 c_q_8_10 c_q_9_10 c_q_10_10 c_q_11_10 c_q_12_10 c_q_13_10 c_q_14_10 c_q_15_10 d_q_10 hb10 HB10
          go_wp2_with fail
          refine (valid_ra [r, r] _ 2 2 _ (by omega) (slr_new [r, r] _ _ rfl rfl (mem2 (HRI.out.step HB11)) 2 rfl) false HV1.out.2).mono ?_
          rintro e w12 ⟨rfl, hb12⟩
          have R_q_12 : Row w12 (w.heap.size) [.int .i64 r.id, .int .i64 r.lv, .int .i64 r.kd, .int .i64 r.fr, .int .i64 r.un, .int .i64 r.ls, .int .i64 r.ms, .int .i64 r.ar, .int .i64 r.kn, .int .i64 r.kk, .int .i64 r.wh.op, .int .i64 r.wh.n, .slice r.wh.at' r.wh.ks.length r.wh.cap, .int .i64 r.pr.op, .int .i64 r.pr.n, .slice r.pr.at' r.pr.ks.length r.pr.cap] := by (repeat' (first | (with_reducible assumption) | (with_reducible refine Row.new' _ _ _ (by first | rfl | (simp; done) | omega)) | (with_reducible refine Row.alloc ?_ _) | (with_reducible refine Row.drew ?_) | (with_reducible refine Row.drewN ?_ _) | (with_reducible refine Row.step ?_ (by with_reducible assumption)) | (with_reducible refine Row.set2' ?_ _ _; first | exact ⟨_, _, by with_reducible assumption⟩ | exact ⟨_, _, Row.alloc (by with_reducible assumption) _⟩ | exact ⟨_, _, Row.alloc (Row.alloc (by with_reducible assumption) _) _⟩) | (with_reducible refine Row.other ?_ (by first | omega | (simp; done) | (simp; omega)) _)))
          have c_q_0_12 := R_q_12.cell 0 rfl
          have c_q_1_12 := R_q_12.cell 1 rfl
          have c_q_2_12 := R_q_12.cell 2 rfl
          have c_q_3_12 := R_q_12.cell 3 rfl
          have c_q_4_12 := R_q_12.cell 4 rfl
          have c_q_5_12 := R_q_12.cell 5 rfl
          have c_q_6_12 := R_q_12.cell 6 rfl
          have c_q_7_12 := R_q_12.cell 7 rfl
          have c_q_8_12 := R_q_12.cell 8 rfl
          have c_q_9_12 := R_q_12.cell 9 rfl
          have c_q_10_12 := R_q_12.cell 10 rfl
          have c_q_11_12 := R_q_12.cell 11 rfl
          have c_q_12_12 := R_q_12.cell 12 rfl
          have c_q_13_12 := R_q_12.cell 13 rfl
          have c_q_14_12 := R_q_12.cell 14 rfl
          have c_q_15_12 := R_q_12.cell 15 rfl
          have d_q_12 := ldV_row R_q_12 rfl
          have l_q_12 := R_q_12.lt
          have HB12 : Below w.heap.size w w12 := by (repeat' (first | (with_reducible exact Below.refl _ _) | (with_reducible assumption) | (with_reducible exact Bw.out (by with_reducible assumption)) | (with_reducible refine bw_alloc ?_ _) | (with_reducible refine bw_step ?_ (by with_reducible assumption)) | (with_reducible refine Below.alloc ?_ ?_ _) | (with_reducible refine Below.drew ?_) | (with_reducible refine below_drewN ?_ _) | (with_reducible refine Below.setCell ?_ ?_ _) | (with_reducible refine below_step ?_ (by with_reducible assumption) ?_) | (with_reducible exact Nat.le_refl _) | omega | (simp; omega) | (simp; done)))
          clear R_q_11 c_q_0_11 c_q_1_11 c_q_2_11 c_q_3_11 c_q_4_11 c_q_5_11 c_q_6_11 c_q_7_11 c_q_8_11 c_q_9_11 c_q_10_11 c_q_11_11 c_q_12_11 c_q_13_11 c_q_14_11 c_q_15_11 d_q_11 hb11 HB11
          go_wp2_with fail
          go_ret
          refine ⟨(by first | rfl | exact ret_bool (by first | rfl | (simp; done) | (simp; omega))), ?_⟩
          (repeat' (first | (with_reducible exact Below.refl _ _) | (with_reducible assumption) | (with_reducible exact Bw.out (by with_reducible assumption)) | (with_reducible refine bw_alloc ?_ _) | (with_reducible refine bw_step ?_ (by with_reducible assumption)) | (with_reducible refine Below.alloc ?_ ?_ _) | (with_reducible refine Below.drew ?_) | (with_reducible refine below_drewN ?_ _) | (with_reducible refine Below.setCell ?_ ?_ _) | (with_reducible refine below_step ?_ (by with_reducible assumption) ?_) | (with_reducible exact Nat.le_refl _) | omega | (simp; omega) | (simp; done)))
    · have hb : B = false := HB.out.symm.trans (rate_nz (by rw [HF.out]; exact hF))
      subst hb
      have hF' : (F != 0) = true := by simpa using hF
      go_wp2_with fail
      go_ret
      refine ⟨(by first | rfl | exact ret_bool (by first | rfl | (simp; done) | (simp; omega))), ?_⟩
      (repeat' (first | (with_reducible exact Below.refl _ _) | (with_reducible assumption) | (with_reducible exact Bw.out (by with_reducible assumption)) | (with_reducible refine bw_alloc ?_ _) | (with_reducible refine bw_step ?_ (by with_reducible assumption)) | (with_reducible refine Below.alloc ?_ ?_ _) | (with_reducible refine Below.drew ?_) | (with_reducible refine below_drewN ?_ _) | (with_reducible refine Below.setCell ?_ ?_ _) | (with_reducible refine below_step ?_ (by with_reducible assumption) ?_) | (with_reducible exact Nat.le_refl _) | omega | (simp; omega) | (simp; done)))


set_option maxRecDepth 100000 in
theorem typesRates_lifted (os : Os) (started : os.Started) (H : Type) (enc : TypeId × Value → H) :
    ReturnsInHanded {} Try.checked os 6 .any (Rows.typesRatesSpec.pre6 enc Try.prog Try.f6 Rows.typesRatesRow.domain false) (Rows.typesRatesSpec.post enc Try.prog Try.f6 false true false false) := by
  refine returnsInHanded_of_change (C := Try.checked) own started (by kernel_rfl) Try.func6
    (ChangeSpec.witness6 (enc := enc) (C := Try.checked) false ⟨#[], #[.agg #[.int .i64 0, .int .i64 0, .int .i64 0, .int .i64 0, .int .i64 0, .int .i64 0, .int .i64 0, .int .i64 0, .int .i64 0, .int .i64 0, .int .i64 0, .int .i64 0, .slice none 0 0, .int .i64 0, .int .i64 0, .slice none 0 0], .int .u8 0], []⟩ 8 (by kernel_rfl) (by kernel_rfl) (by kernel_rfl) (by kernel_rfl)) ?_
  intro W base args ds gs before hval0 hW _ _
  have hval : ∀ (j : Nat) t v, Try.f6.params[j]? = some t → args[j]? = some v → Value.okWide Try.prog W .any base t v := hval0
  have hW' := hW
  obtain ⟨p, q, hA0, hV, rfl, hfz, hnd⟩ := hW
  obtain ⟨rfl, rfl⟩ := trodVars_none hV
  have hA : DataW.TrodAll enc Try.prog W 0 (fun _ => true) true Try.f6.params.toList args.toList ds p := hA0
  rw [Try.params6] at hA hval
  obtain ⟨v0, vs0, d0, ds0, p0, q0, hargs, rfl, rfl, h0, r0⟩ := trodAll_cons hA
  obtain ⟨v1, vs1, d1, ds1, p1, q1, rfl, rfl, rfl, h1, r1⟩ := trodAll_cons r0
  obtain ⟨rfl, rfl, rfl⟩ := trodAll_nil r1
  obtain rfl : args = #[v0, v1] := by cases args; simp_all
  obtain ⟨r, rfl, hs_r, wf_r⟩ := rate_arg (hval 0 30 v0 rfl rfl) h0
  obtain ⟨k, rfl, rfl, rfl, wk⟩ := open_int Try.underlying5 (hval 1 5 v1 rfl rfl) h1
  clear hA0 hval0
  refine (rates_walk r k wf_r wk W hs_r).mono fun e W' ⟨he, hb⟩ => ?_
  subst he
  exact ⟨_, rfl, law_post (B := 4) laidOut (by rw [Try.params6]; simp only [List.mem_cons, List.not_mem_nil, or_false, forall_eq_or_imp, forall_eq]; first | exact readable_typesRates | (repeat' apply And.intro) <;> first | exact of_decide_eq_true (by kernel_rfl) | kernel_rfl) rfl Try.underlying4 rfl rfl hW' hb⟩

theorem typesRates_over : Rows.typesRatesRow.holds Try.pinned (OpenSpec.ofChange Rows.typesRatesSpec) :=
  OpenClaim.holds_of_wide 6 Try.f6 rfl rfl rfl rfl rfl rfl rfl ⟨rfl, rfl, rfl, rfl, rfl⟩ rfl rfl rfl rfl rfl (by kernel_rfl) Try.func6 (by kernel_rfl)
    (of_decide_eq_true (by kernel_rfl)) (by unfold Func.isWrapper; first | (rw [if_pos (by decide +kernel)]; kernel_rfl) | (rw [if_neg (by decide +kernel)]; exact ⟨rfl, rfl⟩))
    (fun os started H enc _ => typesRates_lifted os started H enc)

theorem typesRates_holds : Rows.TypesRatesSaid := typesRates_over
#print axioms typesRates_holds

end Go.Proofs.Ytcmodmchnokmgaa
