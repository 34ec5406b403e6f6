/-
 The walk of law11's head: the examples; it returns true.
-/
import Derived.Test.YtcmodmchnokmgaaGreatMF
import Derived.Test.YtcmodmchnokmgaaGreatEvI
import Derived.Test.YtcmodmchnokmgaaGreatEvK
namespace Go.Proofs.YtcmodmchnokmgaaGreat
set_option linter.unusedSimpArgs false
set_option linter.unusedVariables false
open Go.RowKit
attribute [local go_sem ↓] ld_eq st_eq
attribute [local go_sem] ldR_run ldV_drew ldV_alloc ldV_at16 stR_run sz16_rate stB_drew stB_at16 stW_at16 stB_set ldV_set stW_cell stW_frozen ldV_stW stB_stW
theorem ev2 {v : Int → Int} {op : Int} {B : Nat} {y z : Ex} {a b c d : Int} (h : 4 ≤ op) (h2 : op ≠ 10 ∧ op ≠ 15) (hy : y.ev v = (a, b, 0)) (hz : z.ev v = (c, d, 0)) : (nd op B [y, z]).ev v = ap2 op a b c d := by
 have := ev_two (v := v) (x := nd op B [y, z]) (y := y) (z := z) h h2 rfl (by rw [hy]) rfl (by rw [hz])
 rw [hy, hz] at this
 exact this
theorem ev_lf1 {v : Int → Int} {n : Int} : (lf 1 n).ev v = mk3 n 1 := ev_num (Or.inl rfl)
theorem ev_lf2 {v : Int → Int} {n : Int} : (lf 2 n).ev v = mk3 n 1 := ev_num (Or.inr rfl)
theorem ev_lf3 {v : Int → Int} {n : Int} : (lf 3 n).ev v = mk3 (v n) 1 := ev_var rfl
theorem pn_yes {r : RateV} {a : AskV} {nt N : Int} (hf : fitsR r a nt = true) (hw : r.wh.ev (a.vars nt) = (1, 1, 0)) (hp : r.pr.ev (a.vars nt) = (N, 1, 0)) (h0 : 0 ≤ N) (hr : rnd 3 N 1 = N) : priceN [r] a nt = (N, some r, 0) := by
 have h1 : appl r a nt = (true, 0) := by unfold appl; rw [hf, if_pos rfl, hw]; rfl
 have h2 : bestR a nt none [r] = (some r, 0) := by unfold bestR; rw [h1]; rfl
 have h3 : costR a nt r = (N, 0) := by unfold costR; rw [hp, if_neg (by simp), if_neg (by simp only; rw [hr]; omega)]; simp only; rw [hr]
 unfold priceN
 rw [h2, if_neg (by simp)]
 simp only
 rw [h3, if_neg (by simp)]
theorem pn_no {r : RateV} {a : AskV} {nt : Int} (hf : fitsR r a nt = true) (hw : r.wh.ev (a.vars nt) = (0, 1, 0)) : priceN [r] a nt = (0, none, 4) := by
 have h1 : appl r a nt = (false, 0) := by unfold appl; rw [hf, if_pos rfl, hw]; rfl
 have h2 : bestR a nt none [r] = (none, 0) := by unfold bestR; rw [h1]; rfl
 unfold priceN
 rw [h2]; simp
theorem m1 : mk3 3 1 = (3, 1, 0) := by kernel_rfl
theorem m2 : mk3 5 1 = (5, 1, 0) := by kernel_rfl
theorem m3 : mk3 2 1 = (2, 1, 0) := by kernel_rfl
theorem m4 : mk3 10000 1 = (10000, 1, 0) := by kernel_rfl
theorem m5 : mk3 2000 1 = (2000, 1, 0) := by kernel_rfl
theorem m6 : mk3 1000 1 = (1000, 1, 0) := by kernel_rfl
theorem m7 : mk3 0 1 = (0, 1, 0) := by kernel_rfl
theorem a1 : ap2 11 3 1 5 1 = (1, 1, 0) := by kernel_rfl
theorem a2 : ap2 11 5 1 5 1 = (0, 1, 0) := by kernel_rfl
theorem a3 : ap2 6 2000 1 2 1 = (4000, 1, 0) := by kernel_rfl
theorem a4 : ap2 6 2000 1 3 1 = (6000, 1, 0) := by kernel_rfl
theorem a5 : ap2 4 10000 1 4000 1 = (14000, 1, 0) := by kernel_rfl
theorem a6 : ap2 4 10000 1 6000 1 = (16000, 1, 0) := by kernel_rfl
theorem a7 : ap2 7 1000 1 3 1 = (1000, 3, 0) := by kernel_rfl
theorem a8 : ap2 7 1000 1 0 1 = (0, 0, 22) := by kernel_rfl
theorem w_yes (A : Nat) {v : Int → Int} (h : v 1 = 3) : (nd 11 A [lf 3 1, lf 1 5]).ev v = (1, 1, 0) := by
 rw [ev2 (by omega) (by omega) (ev_lf3.trans (by rw [h]; exact m1)) (ev_lf1.trans m2), a1]
theorem w_no (A : Nat) {v : Int → Int} (h : v 1 = 5) : (nd 11 A [lf 3 1, lf 1 5]).ev v = (0, 1, 0) := by
 rw [ev2 (by omega) (by omega) (ev_lf3.trans (by rw [h]; exact m2)) (ev_lf1.trans m2), a2]
theorem p_2 (B C : Nat) {v : Int → Int} (h : v 2 = 2) : (nd 4 B [lf 2 10000, nd 6 C [lf 2 2000, lf 3 2]]).ev v = (14000, 1, 0) := by
 rw [ev2 (by omega) (by omega) (ev_lf2.trans m4) ((ev2 (by omega) (by omega) (ev_lf2.trans m5) (ev_lf3.trans (by rw [h]; exact m3))).trans a3), a5]
theorem p_3 (B C : Nat) {v : Int → Int} (h : v 2 = 3) : (nd 4 B [lf 2 10000, nd 6 C [lf 2 2000, lf 3 2]]).ev v = (16000, 1, 0) := by
 rw [ev2 (by omega) (by omega) (ev_lf2.trans m4) ((ev2 (by omega) (by omega) (ev_lf2.trans m5) (ev_lf3.trans (by rw [h]; exact m1))).trans a4), a6]
theorem h_c0 (A B C : Nat) (j : Nat) (hf : fitsR (exR A B C) ⟨2, 12, 15, 2⟩ (12 + j) = true) : cstJ [exR A B C] ⟨2, 12, 15, 2⟩ j = (14000, some (exR A B C), 0) :=
 pn_yes hf (w_yes A rfl) (p_2 B C rfl) (by omega) (by kernel_rfl)
theorem h_c (A B C : Nat) (j : Nat) (hj : j < 3) : cstJ [exR A B C] ⟨2, 12, 15, 2⟩ j = (14000, some (exR A B C), 0) := by
 have h : j = 0 ∨ j = 1 ∨ j = 2 := by omega
 rcases h with h | h | h <;> subst h <;> exact h_c0 A B C _ rfl
theorem h_k (A B C : Nat) (j : Nat) (hj : j < 3) : keepJ [exR A B C] ⟨2, 12, 15, 2⟩ j = 7000 := by
 unfold keepJ
 rw [h_c A B C j hj]
 kernel_rfl
theorem h_price1 (A B C : Nat) : priceV [exR A B C] ⟨2, 12, 15, 2⟩ = ([14000, 14000, 14000], 21000, 0) := by
 unfold priceV
 rw [show (validR [exR A B C] && askB ⟨2, 12, 15, 2⟩) = true by kernel_rfl, if_pos rfl, show (⟨2, 12, 15, 2⟩ : AskV).len = 3 from rfl]
 have e : errT [exR A B C] ⟨2, 12, 15, 2⟩ 3 = 0 := by simp [errT, h_c]
 have s1 : sumT (fun j => (cstJ [exR A B C] ⟨2, 12, 15, 2⟩ j).1) 3 = 42000 := by simp [sumT, h_c]
 have s2 : sumT (keepJ [exR A B C] ⟨2, 12, 15, 2⟩) 3 = 21000 := by simp [sumT, h_k]
 have s3 : cstL [exR A B C] ⟨2, 12, 15, 2⟩ 3 = [14000, 14000, 14000] := by simp [cstL, List.range, List.range.loop, h_c]
 rw [e, s1, s2, s3]
 simp
theorem h_e1 (A B C : Nat) : (cstJ [exR A B C] ⟨2, 12, 17, 2⟩ 0).2.2 = 4 := by
 have h : cstJ [exR A B C] ⟨2, 12, 17, 2⟩ 0 = (0, none, 4) := pn_no (show fitsR (exR A B C) ⟨2, 12, 17, 2⟩ 12 = true by rfl) (w_no A rfl)
 rw [h]
theorem h_e2 (A B C : Nat) : errT [exR A B C] ⟨2, 12, 17, 2⟩ 5 = 4 := by
 have e2 : errT [exR A B C] ⟨2, 12, 17, 2⟩ 1 = 4 := by unfold errT; rw [if_neg (by simp [errT]), h_e1]
 have h := errT_stay (l := [exR A B C]) (a := ⟨2, 12, 17, 2⟩) (j := 1) (m := 5) (by omega) (by rw [e2]; simp)
 exact h.trans e2
theorem h_v2 (A B C : Nat) : (validR [exR A B C] && askB ⟨2, 12, 17, 2⟩) = true := by kernel_rfl
theorem h_l2 : (⟨2, 12, 17, 2⟩ : AskV).len = 5 := by rfl
theorem h_price2 (A B C : Nat) : priceV [exR A B C] ⟨2, 12, 17, 2⟩ = ([], 0, 4) := by
 unfold priceV
 rw [h_v2, if_pos rfl, h_l2, h_e2, if_pos (by simp)]
theorem h_night (A B C : Nat) : nightV [exR A B C] ⟨2, 12, 15, 3⟩ 14 = (16000, 7, 0) := by
 have h : priceN [exR A B C] ⟨2, 12, 15, 3⟩ 14 = (16000, some (exR A B C), 0) := pn_yes (show fitsR (exR A B C) ⟨2, 12, 15, 3⟩ 14 = true by rfl) (w_yes A rfl) (p_3 B C rfl) (by omega) (by kernel_rfl)
 unfold nightV
 rw [h, show (validR [exR A B C] && (askB ⟨2, 12, 15, 3⟩ && inN ⟨2, 12, 15, 3⟩ 14)) = true by kernel_rfl, if_pos rfl]
 rfl
theorem h_appl (A B C : Nat) : applV (exR A B C) ⟨2, 9, 12, 3⟩ 9 = (false, 0) := by
 have h : appl (exR A B C) ⟨2, 9, 12, 3⟩ 9 = (false, 0) := by
  unfold appl
  rw [show fitsR (exR A B C) ⟨2, 9, 12, 3⟩ 9 = false by kernel_rfl]; rfl
 unfold applV
 rw [show (rateB (exR A B C) && (askB ⟨2, 9, 12, 3⟩ && inN ⟨2, 9, 12, 3⟩ 9)) = true by kernel_rfl, if_pos rfl, h]
theorem h_eval1 (A : Nat) : evalV (nd 7 A [lf 2 1000, lf 3 1]) 3 1 0 0 = (1000, 3, 0) := by
 unfold evalV
 rw [show ((validE (nd 7 A [lf 2 1000, lf 3 1]) && decide ((nd 7 A [lf 2 1000, lf 3 1]).ty ≠ 0)) && varsB 3 1 0 0) = true by kernel_rfl, if_pos rfl, ev2 (by omega) (by omega) (ev_lf2.trans m6) (ev_lf3.trans m1), a7]
theorem h_eval2 (A : Nat) : evalV (nd 7 A [lf 2 1000, lf 3 3]) 3 1 0 0 = (0, 0, 22) := by
 unfold evalV
 rw [show ((validE (nd 7 A [lf 2 1000, lf 3 3]) && decide ((nd 7 A [lf 2 1000, lf 3 3]).ty ≠ 0)) && varsB 3 1 0 0) = true by kernel_rfl, if_pos rfl, ev2 (by omega) (by omega) (ev_lf2.trans m6) (ev_lf3.trans m7), a8]
theorem h_price3 : priceV [] ⟨0, 0, 0, 0⟩ = ([], 0, 1) := by kernel_rfl
theorem eval_p (x : Ex) (v0 v1 v2 v3 : Int) (w : World) (h : x.In w) (N D E : Int) (hR : evalV x v0 v1 v2 v3 = (N, D, E)) :
  Calls Tryz.prog 8 #[.agg #[.int .i64 x.op, .int .i64 x.n, .slice x.at' x.ks.length x.cap], .agg #[.int .i64 v0, .int .i64 v1, .int .i64 v2, .int .i64 v3]] w fun e w' => e = .returned (.tuple #[.agg #[.int .i64 N, .int .i64 D], .int .i64 E]) ∧ Below w.heap.size w w' := by
 have := eval_any x v0 v1 v2 v3 w h
 rw [hR] at this
 exact this
set_option maxRecDepth 100000 in
set_option maxHeartbeats 6400000 in
theorem head_any (w : World) : Calls Tryz.prog 5 #[] w fun e w' => e = .returned (.bool true) ∧ Below w.heap.size w w' := by
 go_enter Tryz.func5, Tryz.ntmps5
 go_wp2_with fail
 refine (example_any _).mono ?_
 rintro e w1 ⟨D1, A1, B1, C1, rfl, hs1, hb1⟩
 have HB1 : Below w.heap.size w w1 := by (repeat' (first | (with_reducible first | exact Below.refl _ _ | assumption | exact Bw.out (by assumption) | refine bw_alloc ?_ _ | refine bw_step ?_ (by assumption) | refine Below.alloc ?_ ?_ _ | refine Below.drew ?_ | refine below_drewN ?_ _ | refine Below.setCell ?_ ?_ _ | refine below_step ?_ (by assumption) ?_ | exact Nat.le_refl _) | omega | (simp; omega) | (simp; done)))
 go_wp2_with fail
 refine (Price_any (some ⟨D1, 0, none⟩) 1 1 [exR A1 B1 C1] 2 12 15 2 _ hs1 (by omega) [14000, 14000, 14000] 21000 0 (h_price1 _ _ _)).mono ?_
 rintro e w2 ⟨v, rfl, hv, hb2⟩
 have HB2 : Below w.heap.size w w2 := by (repeat' (first | (with_reducible first | exact Below.refl _ _ | assumption | exact Bw.out (by assumption) | refine bw_alloc ?_ _ | refine bw_step ?_ (by assumption) | refine Below.alloc ?_ ?_ _ | refine Below.drew ?_ | refine below_drewN ?_ _ | refine Below.setCell ?_ ?_ _ | refine below_step ?_ (by assumption) ?_ | exact Nat.le_refl _) | omega | (simp; omega) | (simp; done)))
 clear hb1 HB1
 clear hs1
 go_wp2_with fail
 refine (example_any _).mono ?_
 rintro e w3 ⟨D2, A2, B2, C2, rfl, hs2, hb3⟩
 replace hv := hv.step (show Below w2.heap.size w2 w3 by (repeat' (first | (with_reducible first | exact Below.refl _ _ | assumption | exact Bw.out (by assumption) | refine bw_alloc ?_ _ | refine bw_step ?_ (by assumption) | refine Below.alloc ?_ ?_ _ | refine Below.drew ?_ | refine below_drewN ?_ _ | refine Below.setCell ?_ ?_ _ | refine below_step ?_ (by assumption) ?_ | exact Nat.le_refl _) | omega | (simp; omega) | (simp; done))))
 have HB3 : Below w.heap.size w w3 := by (repeat' (first | (with_reducible first | exact Below.refl _ _ | assumption | exact Bw.out (by assumption) | refine bw_alloc ?_ _ | refine bw_step ?_ (by assumption) | refine Below.alloc ?_ ?_ _ | refine Below.drew ?_ | refine below_drewN ?_ _ | refine Below.setCell ?_ ?_ _ | refine below_step ?_ (by assumption) ?_ | exact Nat.le_refl _) | omega | (simp; omega) | (simp; done)))
 clear hb2 HB2
 go_wp2_with fail
 refine (Price_any (some ⟨D2, 0, none⟩) 1 1 [exR A2 B2 C2] 2 12 17 2 _ hs2 (by omega) [] 0 4 (h_price2 _ _ _)).mono ?_
 rintro e w4 ⟨v2, rfl, _, hb4⟩
 replace hv := hv.step (show Below w3.heap.size w3 w4 by (repeat' (first | (with_reducible first | exact Below.refl _ _ | assumption | exact Bw.out (by assumption) | refine bw_alloc ?_ _ | refine bw_step ?_ (by assumption) | refine Below.alloc ?_ ?_ _ | refine Below.drew ?_ | refine below_drewN ?_ _ | refine Below.setCell ?_ ?_ _ | refine below_step ?_ (by assumption) ?_ | exact Nat.le_refl _) | omega | (simp; omega) | (simp; done))))
 have HB4 : Below w.heap.size w w4 := by (repeat' (first | (with_reducible first | exact Below.refl _ _ | assumption | exact Bw.out (by assumption) | refine bw_alloc ?_ _ | refine bw_step ?_ (by assumption) | refine Below.alloc ?_ ?_ _ | refine Below.drew ?_ | refine below_drewN ?_ _ | refine Below.setCell ?_ ?_ _ | refine below_step ?_ (by assumption) ?_ | exact Nat.le_refl _) | omega | (simp; omega) | (simp; done)))
 clear hb3 HB3
 clear hs2
 go_wp2_with fail
 refine (example_any _).mono ?_
 rintro e w5 ⟨D3, A3, B3, C3, rfl, hs3, hb5⟩
 replace hv := hv.step (show Below w4.heap.size w4 w5 by (repeat' (first | (with_reducible first | exact Below.refl _ _ | assumption | exact Bw.out (by assumption) | refine bw_alloc ?_ _ | refine bw_step ?_ (by assumption) | refine Below.alloc ?_ ?_ _ | refine Below.drew ?_ | refine below_drewN ?_ _ | refine Below.setCell ?_ ?_ _ | refine below_step ?_ (by assumption) ?_ | exact Nat.le_refl _) | omega | (simp; omega) | (simp; done))))
 have HB5 : Below w.heap.size w w5 := by (repeat' (first | (with_reducible first | exact Below.refl _ _ | assumption | exact Bw.out (by assumption) | refine bw_alloc ?_ _ | refine bw_step ?_ (by assumption) | refine Below.alloc ?_ ?_ _ | refine Below.drew ?_ | refine below_drewN ?_ _ | refine Below.setCell ?_ ?_ _ | refine below_step ?_ (by assumption) ?_ | exact Nat.le_refl _) | omega | (simp; omega) | (simp; done)))
 clear hb4 HB4
 go_wp2_with fail
 refine (Night_any (some ⟨D3, 0, none⟩) 1 1 [exR A3 B3 C3] 2 12 15 3 14 _ hs3 (by omega) 16000 7 0 (h_night _ _ _)).mono ?_
 rintro e w6 ⟨rfl, hb6⟩
 replace hv := hv.step (show Below w5.heap.size w5 w6 by (repeat' (first | (with_reducible first | exact Below.refl _ _ | assumption | exact Bw.out (by assumption) | refine bw_alloc ?_ _ | refine bw_step ?_ (by assumption) | refine Below.alloc ?_ ?_ _ | refine Below.drew ?_ | refine below_drewN ?_ _ | refine Below.setCell ?_ ?_ _ | refine below_step ?_ (by assumption) ?_ | exact Nat.le_refl _) | omega | (simp; omega) | (simp; done))))
 have HB6 : Below w.heap.size w w6 := by (repeat' (first | (with_reducible first | exact Below.refl _ _ | assumption | exact Bw.out (by assumption) | refine bw_alloc ?_ _ | refine bw_step ?_ (by assumption) | refine Below.alloc ?_ ?_ _ | refine Below.drew ?_ | refine below_drewN ?_ _ | refine Below.setCell ?_ ?_ _ | refine below_step ?_ (by assumption) ?_ | exact Nat.le_refl _) | omega | (simp; omega) | (simp; done)))
 clear hb5 HB5
 clear hs3
 go_wp2_with fail
 refine (example_any _).mono ?_
 rintro e w7 ⟨D4, A4, B4, C4, rfl, hs4, hb7⟩
 replace hv := hv.step (show Below w6.heap.size w6 w7 by (repeat' (first | (with_reducible first | exact Below.refl _ _ | assumption | exact Bw.out (by assumption) | refine bw_alloc ?_ _ | refine bw_step ?_ (by assumption) | refine Below.alloc ?_ ?_ _ | refine Below.drew ?_ | refine below_drewN ?_ _ | refine Below.setCell ?_ ?_ _ | refine below_step ?_ (by assumption) ?_ | exact Nat.le_refl _) | omega | (simp; omega) | (simp; done))))
 have HB7 : Below w.heap.size w w7 := by (repeat' (first | (with_reducible first | exact Below.refl _ _ | assumption | exact Bw.out (by assumption) | refine bw_alloc ?_ _ | refine bw_step ?_ (by assumption) | refine Below.alloc ?_ ?_ _ | refine Below.drew ?_ | refine below_drewN ?_ _ | refine Below.setCell ?_ ?_ _ | refine below_step ?_ (by assumption) ?_ | exact Nat.le_refl _) | omega | (simp; omega) | (simp; done)))
 clear hb6 HB6
 obtain ⟨r, b, off, hr, hba, hlb, hrin, hcl⟩ := hs4.get (i := 0) (by omega)
 cases hba
 have hre : exR A4 B4 C4 = r := by have := hr.out; simpa using this
 subst hre
 have d_r : ldV w7 (.pointer (some ⟨D4, 0, none⟩)) = some (.agg #[.int .i64 7, .int .i64 1, .int .i64 2, .int .i64 10, .int .i64 40, .int .i64 2, .int .i64 9, .int .i64 127, .int .i64 1, .int .i64 2, .int .i64 11, .int .i64 0, .slice (some ⟨A4, 0, none⟩) 2 2, .int .i64 4, .int .i64 0, .slice (some ⟨B4, 0, none⟩) 2 2]) := by
  have := ldV_at (cs := [.int .i64 7, .int .i64 1, .int .i64 2, .int .i64 10, .int .i64 40, .int .i64 2, .int .i64 9, .int .i64 127, .int .i64 1, .int .i64 2, .int .i64 11, .int .i64 0, .slice (some ⟨A4, 0, none⟩) 2 2, .int .i64 4, .int .i64 0, .slice (some ⟨B4, 0, none⟩) 2 2]) hcl.out rfl
  simpa using this
 clear hcl hr hs4
 go_wp2_with fail
 refine (Applies_any (exR A4 B4 C4) 2 9 12 3 9 _ hrin.out false 0 (h_appl _ _ _)).mono ?_
 rintro e w8 ⟨rfl, hb8⟩
 replace hv := hv.step (show Below w7.heap.size w7 w8 by (repeat' (first | (with_reducible first | exact Below.refl _ _ | assumption | exact Bw.out (by assumption) | refine bw_alloc ?_ _ | refine bw_step ?_ (by assumption) | refine Below.alloc ?_ ?_ _ | refine Below.drew ?_ | refine below_drewN ?_ _ | refine Below.setCell ?_ ?_ _ | refine below_step ?_ (by assumption) ?_ | exact Nat.le_refl _) | omega | (simp; omega) | (simp; done))))
 have HB8 : Below w.heap.size w w8 := by (repeat' (first | (with_reducible first | exact Below.refl _ _ | assumption | exact Bw.out (by assumption) | refine bw_alloc ?_ _ | refine bw_step ?_ (by assumption) | refine Below.alloc ?_ ?_ _ | refine Below.drew ?_ | refine below_drewN ?_ _ | refine Below.setCell ?_ ?_ _ | refine below_step ?_ (by assumption) ?_ | exact Nat.le_refl _) | omega | (simp; omega) | (simp; done)))
 clear hb7 HB7
 clear d_r hrin
 go_wp2_with fail
 refine (leaf_any 2 1000 _).mono ?_
 rintro e w9 ⟨rfl, hb9⟩
 replace hv := hv.step (show Below w8.heap.size w8 w9 by (repeat' (first | (with_reducible first | exact Below.refl _ _ | assumption | exact Bw.out (by assumption) | refine bw_alloc ?_ _ | refine bw_step ?_ (by assumption) | refine Below.alloc ?_ ?_ _ | refine Below.drew ?_ | refine below_drewN ?_ _ | refine Below.setCell ?_ ?_ _ | refine below_step ?_ (by assumption) ?_ | exact Nat.le_refl _) | omega | (simp; omega) | (simp; done))))
 have HB9 : Below w.heap.size w w9 := by (repeat' (first | (with_reducible first | exact Below.refl _ _ | assumption | exact Bw.out (by assumption) | refine bw_alloc ?_ _ | refine bw_step ?_ (by assumption) | refine Below.alloc ?_ ?_ _ | refine Below.drew ?_ | refine below_drewN ?_ _ | refine Below.setCell ?_ ?_ _ | refine below_step ?_ (by assumption) ?_ | exact Nat.le_refl _) | omega | (simp; omega) | (simp; done)))
 clear hb8 HB8
 go_wp2_with fail
 refine (leaf_any 3 1 _).mono ?_
 rintro e w10 ⟨rfl, hb10⟩
 replace hv := hv.step (show Below w9.heap.size w9 w10 by (repeat' (first | (with_reducible first | exact Below.refl _ _ | assumption | exact Bw.out (by assumption) | refine bw_alloc ?_ _ | refine bw_step ?_ (by assumption) | refine Below.alloc ?_ ?_ _ | refine Below.drew ?_ | refine below_drewN ?_ _ | refine Below.setCell ?_ ?_ _ | refine below_step ?_ (by assumption) ?_ | exact Nat.le_refl _) | omega | (simp; omega) | (simp; done))))
 have HB10 : Below w.heap.size w w10 := by (repeat' (first | (with_reducible first | exact Below.refl _ _ | assumption | exact Bw.out (by assumption) | refine bw_alloc ?_ _ | refine bw_step ?_ (by assumption) | refine Below.alloc ?_ ?_ _ | refine Below.drew ?_ | refine below_drewN ?_ _ | refine Below.setCell ?_ ?_ _ | refine below_step ?_ (by assumption) ?_ | exact Nat.le_refl _) | omega | (simp; omega) | (simp; done)))
 clear hb9 HB9
 go_wp2_with fail
 refine (node_any 7 _ 2 2 _).mono ?_
 rintro e w11 ⟨rfl, hb11⟩
 have R_x_11 : Row w11 (w10.heap.size) [.int .i64 2, .int .i64 1000, .slice none 0 0, .int .i64 3, .int .i64 1, .slice none 0 0] := by (repeat' (first | (with_reducible assumption) | (with_reducible refine Row.new' _ _ _ (by first | rfl | (simp; done) | omega)) | (with_reducible first | refine Row.alloc ?_ _ | refine Row.drew ?_ | refine Row.step ?_ (by assumption) | refine Row.drewN ?_ _) | (with_reducible refine Row.set2' ?_ _ _; first | exact ⟨_, _, by assumption⟩ | exact ⟨_, _, Row.alloc (by assumption) _⟩) | (with_reducible refine Row.other ?_ (by first | omega | (simp; omega)) _)))
 have c_x_0_11 := R_x_11.cell 0 rfl
 have c_x_1_11 := R_x_11.cell 1 rfl
 have c_x_2_11 := R_x_11.cell 2 rfl
 have c_x_3_11 := R_x_11.cell 3 rfl
 have c_x_4_11 := R_x_11.cell 4 rfl
 have c_x_5_11 := R_x_11.cell 5 rfl
 have l_x_11 := R_x_11.lt
 replace hv := hv.step (show Below w10.heap.size w10 w11 by (repeat' (first | (with_reducible first | exact Below.refl _ _ | assumption | exact Bw.out (by assumption) | refine bw_alloc ?_ _ | refine bw_step ?_ (by assumption) | refine Below.alloc ?_ ?_ _ | refine Below.drew ?_ | refine below_drewN ?_ _ | refine Below.setCell ?_ ?_ _ | refine below_step ?_ (by assumption) ?_ | exact Nat.le_refl _) | omega | (simp; omega) | (simp; done))))
 have HB11 : Below w.heap.size w w11 := by (repeat' (first | (with_reducible first | exact Below.refl _ _ | assumption | exact Bw.out (by assumption) | refine bw_alloc ?_ _ | refine bw_step ?_ (by assumption) | refine Below.alloc ?_ ?_ _ | refine Below.drew ?_ | refine below_drewN ?_ _ | refine Below.setCell ?_ ?_ _ | refine below_step ?_ (by assumption) ?_ | exact Nat.le_refl _) | omega | (simp; omega) | (simp; done)))
 clear hb10 HB10
 go_wp2_with fail
 refine (eval_p (nd 7 w10.heap.size [lf 2 1000, lf 3 1]) 3 1 0 0 _ (nd_row2 R_x_11 7 (lf 2 1000) (lf 3 1) rfl (lf_in _ _ _) (lf_in _ _ _)) 1000 3 0 (h_eval1 _)).mono ?_
 rintro e w12 ⟨rfl, hb12⟩
 have R_x_12 : Row w12 (w10.heap.size) [.int .i64 2, .int .i64 1000, .slice none 0 0, .int .i64 3, .int .i64 1, .slice none 0 0] := by (repeat' (first | (with_reducible assumption) | (with_reducible refine Row.new' _ _ _ (by first | rfl | (simp; done) | omega)) | (with_reducible first | refine Row.alloc ?_ _ | refine Row.drew ?_ | refine Row.step ?_ (by assumption) | refine Row.drewN ?_ _) | (with_reducible refine Row.set2' ?_ _ _; first | exact ⟨_, _, by assumption⟩ | exact ⟨_, _, Row.alloc (by assumption) _⟩) | (with_reducible refine Row.other ?_ (by first | omega | (simp; omega)) _)))
 have c_x_0_12 := R_x_12.cell 0 rfl
 have c_x_1_12 := R_x_12.cell 1 rfl
 have c_x_2_12 := R_x_12.cell 2 rfl
 have c_x_3_12 := R_x_12.cell 3 rfl
 have c_x_4_12 := R_x_12.cell 4 rfl
 have c_x_5_12 := R_x_12.cell 5 rfl
 have l_x_12 := R_x_12.lt
 replace hv := hv.step (show Below w11.heap.size w11 w12 by (repeat' (first | (with_reducible first | exact Below.refl _ _ | assumption | exact Bw.out (by assumption) | refine bw_alloc ?_ _ | refine bw_step ?_ (by assumption) | refine Below.alloc ?_ ?_ _ | refine Below.drew ?_ | refine below_drewN ?_ _ | refine Below.setCell ?_ ?_ _ | refine below_step ?_ (by assumption) ?_ | exact Nat.le_refl _) | omega | (simp; omega) | (simp; done))))
 have HB12 : Below w.heap.size w w12 := by (repeat' (first | (with_reducible first | exact Below.refl _ _ | assumption | exact Bw.out (by assumption) | refine bw_alloc ?_ _ | refine bw_step ?_ (by assumption) | refine Below.alloc ?_ ?_ _ | refine Below.drew ?_ | refine below_drewN ?_ _ | refine Below.setCell ?_ ?_ _ | refine below_step ?_ (by assumption) ?_ | exact Nat.le_refl _) | omega | (simp; omega) | (simp; done)))
 clear R_x_11 c_x_0_11 c_x_1_11 c_x_2_11 c_x_3_11 c_x_4_11 c_x_5_11 hb11 HB11
 go_wp2_with fail
 refine (leaf_any 2 1000 _).mono ?_
 rintro e w13 ⟨rfl, hb13⟩
 have R_v_13 : Row w13 (w12.heap.size) [.int .i64 1000, .int .i64 3] := by (repeat' (first | (with_reducible assumption) | (with_reducible refine Row.new' _ _ _ (by first | rfl | (simp; done) | omega)) | (with_reducible first | refine Row.alloc ?_ _ | refine Row.drew ?_ | refine Row.step ?_ (by assumption) | refine Row.drewN ?_ _) | (with_reducible refine Row.set2' ?_ _ _; first | exact ⟨_, _, by assumption⟩ | exact ⟨_, _, Row.alloc (by assumption) _⟩) | (with_reducible refine Row.other ?_ (by first | omega | (simp; omega)) _)))
 have c_v_0_13 := R_v_13.cell 0 rfl
 have c_v_1_13 := R_v_13.cell 1 rfl
 have l_v_13 := R_v_13.lt
 replace hv := hv.step (show Below w12.heap.size w12 w13 by (repeat' (first | (with_reducible first | exact Below.refl _ _ | assumption | exact Bw.out (by assumption) | refine bw_alloc ?_ _ | refine bw_step ?_ (by assumption) | refine Below.alloc ?_ ?_ _ | refine Below.drew ?_ | refine below_drewN ?_ _ | refine Below.setCell ?_ ?_ _ | refine below_step ?_ (by assumption) ?_ | exact Nat.le_refl _) | omega | (simp; omega) | (simp; done))))
 have HB13 : Below w.heap.size w w13 := by (repeat' (first | (with_reducible first | exact Below.refl _ _ | assumption | exact Bw.out (by assumption) | refine bw_alloc ?_ _ | refine bw_step ?_ (by assumption) | refine Below.alloc ?_ ?_ _ | refine Below.drew ?_ | refine below_drewN ?_ _ | refine Below.setCell ?_ ?_ _ | refine below_step ?_ (by assumption) ?_ | exact Nat.le_refl _) | omega | (simp; omega) | (simp; done)))
 clear R_x_12 c_x_0_12 c_x_1_12 c_x_2_12 c_x_3_12 c_x_4_12 c_x_5_12 hb12 HB12
 go_wp2_with fail
 refine (leaf_any 3 3 _).mono ?_
 rintro e w14 ⟨rfl, hb14⟩
 have R_v_14 : Row w14 (w12.heap.size) [.int .i64 1000, .int .i64 3] := by (repeat' (first | (with_reducible assumption) | (with_reducible refine Row.new' _ _ _ (by first | rfl | (simp; done) | omega)) | (with_reducible first | refine Row.alloc ?_ _ | refine Row.drew ?_ | refine Row.step ?_ (by assumption) | refine Row.drewN ?_ _) | (with_reducible refine Row.set2' ?_ _ _; first | exact ⟨_, _, by assumption⟩ | exact ⟨_, _, Row.alloc (by assumption) _⟩) | (with_reducible refine Row.other ?_ (by first | omega | (simp; omega)) _)))
 have c_v_0_14 := R_v_14.cell 0 rfl
 have c_v_1_14 := R_v_14.cell 1 rfl
 have l_v_14 := R_v_14.lt
 replace hv := hv.step (show Below w13.heap.size w13 w14 by (repeat' (first | (with_reducible first | exact Below.refl _ _ | assumption | exact Bw.out (by assumption) | refine bw_alloc ?_ _ | refine bw_step ?_ (by assumption) | refine Below.alloc ?_ ?_ _ | refine Below.drew ?_ | refine below_drewN ?_ _ | refine Below.setCell ?_ ?_ _ | refine below_step ?_ (by assumption) ?_ | exact Nat.le_refl _) | omega | (simp; omega) | (simp; done))))
 have HB14 : Below w.heap.size w w14 := by (repeat' (first | (with_reducible first | exact Below.refl _ _ | assumption | exact Bw.out (by assumption) | refine bw_alloc ?_ _ | refine bw_step ?_ (by assumption) | refine Below.alloc ?_ ?_ _ | refine Below.drew ?_ | refine below_drewN ?_ _ | refine Below.setCell ?_ ?_ _ | refine below_step ?_ (by assumption) ?_ | exact Nat.le_refl _) | omega | (simp; omega) | (simp; done)))
 clear R_v_13 c_v_0_13 c_v_1_13 hb13 HB13
 go_wp2_with fail
 refine (node_any 7 _ 2 2 _).mono ?_
 rintro e w15 ⟨rfl, hb15⟩
 have R_v_15 : Row w15 (w12.heap.size) [.int .i64 1000, .int .i64 3] := by (repeat' (first | (with_reducible assumption) | (with_reducible refine Row.new' _ _ _ (by first | rfl | (simp; done) | omega)) | (with_reducible first | refine Row.alloc ?_ _ | refine Row.drew ?_ | refine Row.step ?_ (by assumption) | refine Row.drewN ?_ _) | (with_reducible refine Row.set2' ?_ _ _; first | exact ⟨_, _, by assumption⟩ | exact ⟨_, _, Row.alloc (by assumption) _⟩) | (with_reducible refine Row.other ?_ (by first | omega | (simp; omega)) _)))
 have c_v_0_15 := R_v_15.cell 0 rfl
 have c_v_1_15 := R_v_15.cell 1 rfl
 have l_v_15 := R_v_15.lt
 have R_y_15 : Row w15 (w14.heap.size) [.int .i64 2, .int .i64 1000, .slice none 0 0, .int .i64 3, .int .i64 3, .slice none 0 0] := by (repeat' (first | (with_reducible assumption) | (with_reducible refine Row.new' _ _ _ (by first | rfl | (simp; done) | omega)) | (with_reducible first | refine Row.alloc ?_ _ | refine Row.drew ?_ | refine Row.step ?_ (by assumption) | refine Row.drewN ?_ _) | (with_reducible refine Row.set2' ?_ _ _; first | exact ⟨_, _, by assumption⟩ | exact ⟨_, _, Row.alloc (by assumption) _⟩) | (with_reducible refine Row.other ?_ (by first | omega | (simp; omega)) _)))
 have c_y_0_15 := R_y_15.cell 0 rfl
 have c_y_1_15 := R_y_15.cell 1 rfl
 have c_y_2_15 := R_y_15.cell 2 rfl
 have c_y_3_15 := R_y_15.cell 3 rfl
 have c_y_4_15 := R_y_15.cell 4 rfl
 have c_y_5_15 := R_y_15.cell 5 rfl
 have l_y_15 := R_y_15.lt
 replace hv := hv.step (show Below w14.heap.size w14 w15 by (repeat' (first | (with_reducible first | exact Below.refl _ _ | assumption | exact Bw.out (by assumption) | refine bw_alloc ?_ _ | refine bw_step ?_ (by assumption) | refine Below.alloc ?_ ?_ _ | refine Below.drew ?_ | refine below_drewN ?_ _ | refine Below.setCell ?_ ?_ _ | refine below_step ?_ (by assumption) ?_ | exact Nat.le_refl _) | omega | (simp; omega) | (simp; done))))
 have HB15 : Below w.heap.size w w15 := by (repeat' (first | (with_reducible first | exact Below.refl _ _ | assumption | exact Bw.out (by assumption) | refine bw_alloc ?_ _ | refine bw_step ?_ (by assumption) | refine Below.alloc ?_ ?_ _ | refine Below.drew ?_ | refine below_drewN ?_ _ | refine Below.setCell ?_ ?_ _ | refine below_step ?_ (by assumption) ?_ | exact Nat.le_refl _) | omega | (simp; omega) | (simp; done)))
 clear R_v_14 c_v_0_14 c_v_1_14 hb14 HB14
 go_wp2_with fail
 refine (eval_p (nd 7 w14.heap.size [lf 2 1000, lf 3 3]) 3 1 0 0 _ (nd_row2 R_y_15 7 (lf 2 1000) (lf 3 3) rfl (lf_in _ _ _) (lf_in _ _ _)) 0 0 22 (h_eval2 _)).mono ?_
 rintro e w16 ⟨rfl, hb16⟩
 have R_v_16 : Row w16 (w12.heap.size) [.int .i64 1000, .int .i64 3] := by (repeat' (first | (with_reducible assumption) | (with_reducible refine Row.new' _ _ _ (by first | rfl | (simp; done) | omega)) | (with_reducible first | refine Row.alloc ?_ _ | refine Row.drew ?_ | refine Row.step ?_ (by assumption) | refine Row.drewN ?_ _) | (with_reducible refine Row.set2' ?_ _ _; first | exact ⟨_, _, by assumption⟩ | exact ⟨_, _, Row.alloc (by assumption) _⟩) | (with_reducible refine Row.other ?_ (by first | omega | (simp; omega)) _)))
 have c_v_0_16 := R_v_16.cell 0 rfl
 have c_v_1_16 := R_v_16.cell 1 rfl
 have l_v_16 := R_v_16.lt
 have R_y_16 : Row w16 (w14.heap.size) [.int .i64 2, .int .i64 1000, .slice none 0 0, .int .i64 3, .int .i64 3, .slice none 0 0] := by (repeat' (first | (with_reducible assumption) | (with_reducible refine Row.new' _ _ _ (by first | rfl | (simp; done) | omega)) | (with_reducible first | refine Row.alloc ?_ _ | refine Row.drew ?_ | refine Row.step ?_ (by assumption) | refine Row.drewN ?_ _) | (with_reducible refine Row.set2' ?_ _ _; first | exact ⟨_, _, by assumption⟩ | exact ⟨_, _, Row.alloc (by assumption) _⟩) | (with_reducible refine Row.other ?_ (by first | omega | (simp; omega)) _)))
 have c_y_0_16 := R_y_16.cell 0 rfl
 have c_y_1_16 := R_y_16.cell 1 rfl
 have c_y_2_16 := R_y_16.cell 2 rfl
 have c_y_3_16 := R_y_16.cell 3 rfl
 have c_y_4_16 := R_y_16.cell 4 rfl
 have c_y_5_16 := R_y_16.cell 5 rfl
 have l_y_16 := R_y_16.lt
 replace hv := hv.step (show Below w15.heap.size w15 w16 by (repeat' (first | (with_reducible first | exact Below.refl _ _ | assumption | exact Bw.out (by assumption) | refine bw_alloc ?_ _ | refine bw_step ?_ (by assumption) | refine Below.alloc ?_ ?_ _ | refine Below.drew ?_ | refine below_drewN ?_ _ | refine Below.setCell ?_ ?_ _ | refine below_step ?_ (by assumption) ?_ | exact Nat.le_refl _) | omega | (simp; omega) | (simp; done))))
 have HB16 : Below w.heap.size w w16 := by (repeat' (first | (with_reducible first | exact Below.refl _ _ | assumption | exact Bw.out (by assumption) | refine bw_alloc ?_ _ | refine bw_step ?_ (by assumption) | refine Below.alloc ?_ ?_ _ | refine Below.drew ?_ | refine below_drewN ?_ _ | refine Below.setCell ?_ ?_ _ | refine below_step ?_ (by assumption) ?_ | exact Nat.le_refl _) | omega | (simp; omega) | (simp; done)))
 clear R_v_15 c_v_0_15 c_v_1_15 R_y_15 c_y_0_15 c_y_1_15 c_y_2_15 c_y_3_15 c_y_4_15 c_y_5_15 hb15 HB15
 go_wp2_with fail
 refine (Price_any none 0 0 [] 0 0 0 0 _ (SlR.nil _ _) (by omega) [] 0 1 h_price3).mono ?_
 rintro e w17 ⟨v3, rfl, _, hb17⟩
 have R_v_17 : Row w17 (w12.heap.size) [.int .i64 1000, .int .i64 3] := by (repeat' (first | (with_reducible assumption) | (with_reducible refine Row.new' _ _ _ (by first | rfl | (simp; done) | omega)) | (with_reducible first | refine Row.alloc ?_ _ | refine Row.drew ?_ | refine Row.step ?_ (by assumption) | refine Row.drewN ?_ _) | (with_reducible refine Row.set2' ?_ _ _; first | exact ⟨_, _, by assumption⟩ | exact ⟨_, _, Row.alloc (by assumption) _⟩) | (with_reducible refine Row.other ?_ (by first | omega | (simp; omega)) _)))
 have c_v_0_17 := R_v_17.cell 0 rfl
 have c_v_1_17 := R_v_17.cell 1 rfl
 have l_v_17 := R_v_17.lt
 replace hv := hv.step (show Below w16.heap.size w16 w17 by (repeat' (first | (with_reducible first | exact Below.refl _ _ | assumption | exact Bw.out (by assumption) | refine bw_alloc ?_ _ | refine bw_step ?_ (by assumption) | refine Below.alloc ?_ ?_ _ | refine Below.drew ?_ | refine below_drewN ?_ _ | refine Below.setCell ?_ ?_ _ | refine below_step ?_ (by assumption) ?_ | exact Nat.le_refl _) | omega | (simp; omega) | (simp; done))))
 have HB17 : Below w.heap.size w w17 := by (repeat' (first | (with_reducible first | exact Below.refl _ _ | assumption | exact Bw.out (by assumption) | refine bw_alloc ?_ _ | refine bw_step ?_ (by assumption) | refine Below.alloc ?_ ?_ _ | refine Below.drew ?_ | refine below_drewN ?_ _ | refine Below.setCell ?_ ?_ _ | refine below_step ?_ (by assumption) ?_ | exact Nat.le_refl _) | omega | (simp; omega) | (simp; done)))
 clear R_v_16 c_v_0_16 c_v_1_16 R_y_16 c_y_0_16 c_y_1_16 c_y_2_16 c_y_3_16 c_y_4_16 c_y_5_16 hb16 HB16
 go_wp2_with fail
 have hz : SlV (w17.alloc (.cells #[.int .i64 14000, .int .i64 14000, .int .i64 14000] 3)) (.slice (some ⟨w17.heap.size, 0, none⟩) 3 3) [14000, 14000, 14000] :=
  SlV.lit (Row.new' _ [.int .i64 14000, .int .i64 14000, .int .i64 14000] _ rfl) rfl rfl (by omega)
 refine (R_same_c _ _ _ _ _ (hv.step ((Below.refl _ _).alloc (Nat.le_refl _) _)) hz true (by decide)).mono ?_
 rintro e w18 ⟨rfl, hb18⟩
 have R_v_18 : Row w18 (w12.heap.size) [.int .i64 1000, .int .i64 3] := by (repeat' (first | (with_reducible assumption) | (with_reducible refine Row.new' _ _ _ (by first | rfl | (simp; done) | omega)) | (with_reducible first | refine Row.alloc ?_ _ | refine Row.drew ?_ | refine Row.step ?_ (by assumption) | refine Row.drewN ?_ _) | (with_reducible refine Row.set2' ?_ _ _; first | exact ⟨_, _, by assumption⟩ | exact ⟨_, _, Row.alloc (by assumption) _⟩) | (with_reducible refine Row.other ?_ (by first | omega | (simp; omega)) _)))
 have c_v_0_18 := R_v_18.cell 0 rfl
 have c_v_1_18 := R_v_18.cell 1 rfl
 have l_v_18 := R_v_18.lt
 have R_z_18 : Row w18 (w17.heap.size) [.int .i64 14000, .int .i64 14000, .int .i64 14000] := by (repeat' (first | (with_reducible assumption) | (with_reducible refine Row.new' _ _ _ (by first | rfl | (simp; done) | omega)) | (with_reducible first | refine Row.alloc ?_ _ | refine Row.drew ?_ | refine Row.step ?_ (by assumption) | refine Row.drewN ?_ _) | (with_reducible refine Row.set2' ?_ _ _; first | exact ⟨_, _, by assumption⟩ | exact ⟨_, _, Row.alloc (by assumption) _⟩) | (with_reducible refine Row.other ?_ (by first | omega | (simp; omega)) _)))
 have c_z_0_18 := R_z_18.cell 0 rfl
 have c_z_1_18 := R_z_18.cell 1 rfl
 have c_z_2_18 := R_z_18.cell 2 rfl
 have l_z_18 := R_z_18.lt
 replace hv := hv.step (show Below w17.heap.size w17 w18 by (repeat' (first | (with_reducible first | exact Below.refl _ _ | assumption | exact Bw.out (by assumption) | refine bw_alloc ?_ _ | refine bw_step ?_ (by assumption) | refine Below.alloc ?_ ?_ _ | refine Below.drew ?_ | refine below_drewN ?_ _ | refine Below.setCell ?_ ?_ _ | refine below_step ?_ (by assumption) ?_ | exact Nat.le_refl _) | omega | (simp; omega) | (simp; done))))
 have HB18 : Below w.heap.size w w18 := by (repeat' (first | (with_reducible first | exact Below.refl _ _ | assumption | exact Bw.out (by assumption) | refine bw_alloc ?_ _ | refine bw_step ?_ (by assumption) | refine Below.alloc ?_ ?_ _ | refine Below.drew ?_ | refine below_drewN ?_ _ | refine Below.setCell ?_ ?_ _ | refine below_step ?_ (by assumption) ?_ | exact Nat.le_refl _) | omega | (simp; omega) | (simp; done)))
 clear R_v_17 c_v_0_17 c_v_1_17 hb17 HB17
 go_wp2_with fail
 go_ret
 refine ⟨(by first | rfl | exact ret_bool (by first | rfl | (simp; done) | (simp; omega))), ?_⟩
 (repeat' (first | (with_reducible first | exact Below.refl _ _ | assumption | exact Bw.out (by assumption) | refine bw_alloc ?_ _ | refine bw_step ?_ (by assumption) | refine Below.alloc ?_ ?_ _ | refine Below.drew ?_ | refine below_drewN ?_ _ | refine Below.setCell ?_ ?_ _ | refine below_step ?_ (by assumption) ?_ | exact Nat.le_refl _) | omega | (simp; omega) | (simp; done)))
end Go.Proofs.YtcmodmchnokmgaaGreat
