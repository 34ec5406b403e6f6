/-
 The walks of packages span, rooms, stays: Meet, free, Free, wrong, suits, Fits.
-/
import Derived.Test.YtlmajlfhjbhdpaaGreatZN
import Derived.Test.YtlmajlfhjbhdpaaGreatZG
namespace Go.Proofs.YtlmajlfhjbhdpaaGreat
set_option linter.unusedSimpArgs false
set_option linter.unusedVariables false
open Go.RowKit Go.Shelf
def freeB (bl : List (Int × Int)) (f u : Int) : Bool := !(pcL bl [(f, u)]).any wantB
def suitB (s : StayV) (r : RoomV) : Bool := freeB r.bl s.fr s.un && (decide (s.kd = r.kd) && ((r.ac || !s.ac) && (!s.inn || decide (s.rm = r.id))))
set_option maxRecDepth 100000 in
set_option maxHeartbeats 1600000 in
theorem meet_any (a b : Option Addr) (n1 n2 c1 c2 : Nat) (la lb : List (Int × Int)) (w : World) (hs1 : SlG spE w a n1 la) (hs2 : SlG spE w b n2 lb) (hn1 : n1 ≤ 1000) (hn2 : n2 ≤ 1000) (h0 : 0 < n2) (hv1 : validS la = true) (hv2 : validS lb = true) :
  Calls Tryz.prog 76 #[.slice a n1 c1, .slice b n2 c2] w fun e w' => ∃ (ad : Option Addr) (m cp : Nat) (E : Int), e = .returned (.tuple #[.slice ad m cp, .int .i64 E]) ∧ decide (E = 0 ∧ m = 0) = !(pcL la lb).any wantB ∧ Below w.heap.size w w' := by
 have hc := combine_any a b n1 n2 c1 c2 la lb w hs1 hs2 hn1 hn2 h0 hv1 hv2
 clear hs1 hs2 hv1 hv2
 go_enter Tryz.func76, Tryz.ntmps76
 go_wp2_with fail
 refine hc.mono ?_
 rintro e w1 ⟨ad, m, cp, E, rfl, h1, h2⟩
 clear hc
 have H1 := Lib.hid h1
 clear h1
 go_wp2_with fail
 go_ret2
 exact ⟨ad, m, cp, E, rfl, H1.out, h2⟩
set_option maxRecDepth 100000 in
set_option maxHeartbeats 1600000 in
theorem free_p (r : RoomV) (f u : Int) (p : Bool) (hp : freeB r.bl f u = p) (w : World) (hin : r.In w) (hv : validS r.bl = true) (h0 : 0 ≤ f) (h1 : f < u) (h2 : u ≤ 366) :
  Calls Tryz.prog 64 #[.agg #[.int .i64 r.id, .int .i64 r.ho, .int .i64 r.kd, .int .i64 r.jn, .bool r.ac, .slice r.ba r.bl.length r.bc], .agg #[.int .i64 f, .int .i64 u]] w fun e w' => e = .returned (.bool p) ∧ Below w.heap.size w w' := by
 have HB := Lib.hid hin.1
 have HP := Lib.hid hp
 have hl : r.bl.length ≤ 1000 := by unfold validS at hv; simp only [Bool.and_eq_true, decide_eq_true_eq] at hv; exact hv.2
 have hvo : validS [(f, u)] = true := by unfold validS spansB spansB spanB; simp; omega
 have HV := Lib.hid hv
 clear hp hin hv
 go_enter Tryz.func64, Tryz.ntmps64
 go_wp2_with fail
 obtain ⟨W, hW⟩ : ∃ W, ((w.alloc (.cells #[.int .i64 r.id, .int .i64 r.ho, .int .i64 r.kd, .int .i64 r.jn, .bool r.ac, .slice r.ba r.bl.length r.bc] 42)).alloc (.cells #[.int .i64 f, .int .i64 u] 83)).alloc (.cells #[.int .i64 f, .int .i64 u] 83) = W := ⟨_, rfl⟩
 have hz : Row W (w.heap.size + 2) ([(f, u)].flatMap spE.c ++ []) := by rw [← hW]; exact Row.new' _ [.int .i64 f, .int .i64 u] _ (by simp)
 have hbw : Below w.heap.size w W := by rw [← hW]; (repeat' (first | (with_reducible first | exact Below.refl _ _ | assumption | exact Bw.out (by assumption) | refine bw_alloc ?_ _ | refine bw_step ?_ (by assumption) | refine Below.alloc ?_ ?_ _ | refine Below.drew ?_ | refine below_drewN ?_ _ | refine Below.setCell ?_ ?_ _ | refine below_step ?_ (by assumption) ?_ | exact Nat.le_refl _) | omega | (simp; omega) | (simp; done)))
 rw [hW]
 clear hW
 refine (meet_any r.ba _ r.bl.length 1 r.bc 1 r.bl [(f, u)] W (HB.out.step hbw) (SlG.row hz rfl) hl (by omega) (by omega) HV.out hvo).mono ?_
 rintro e w1 ⟨ad, m, cp, E, rfl, h3, h4⟩
 have hb := hbw.trans (h4.mono hbw.size)
 have hpe : p = decide (E = 0 ∧ m = 0) := by rw [h3, ← HP.out]; rfl
 clear h3 h4 hz hbw HB HV hvo
 by_cases hE : E = 0
 ·
  subst hE
  have hq : p = ((m : Int) == 0) := by rw [hpe, Bool.eq_iff_iff]; simp
  subst hq
  clear hpe HP
  go_wp2_with fail
  go_ret
  exact ⟨rfl, hb⟩
 ·
  have hE' : (E == 0) = false := by simpa using hE
  have hq : p = false := by rw [hpe]; simp [hE]
  subst hq
  clear hpe HP hE
  go_wp2_with fail
  go_ret
  exact ⟨rfl, hb⟩
set_option maxRecDepth 100000 in
set_option maxHeartbeats 1600000 in
theorem Free_p (r : RoomV) (f u : Int) (p : Bool) (hp : freeB r.bl f u = p) (w : World) (hin : r.In w) (hv : formedR r = true) (h0 : 0 ≤ f) (h1 : f < u) (h2 : u ≤ 366) :
  Calls Tryz.prog 46 #[.agg #[.int .i64 r.id, .int .i64 r.ho, .int .i64 r.kd, .int .i64 r.jn, .bool r.ac, .slice r.ba r.bl.length r.bc], .agg #[.int .i64 f, .int .i64 u]] w fun e w' => e = .returned (.tuple #[.bool p, .int .i64 0]) ∧ Below w.heap.size w w' := by
 have HI := Lib.hid hin
 have HP := Lib.hid hp
 have HV := Lib.hid hv
 clear hp hin hv
 go_enter Tryz.func46, Tryz.ntmps46
 go_wp2_with fail
 refine (formed_p r true HV.out _ (HI.out.step (by (repeat' (first | (with_reducible first | exact Below.refl _ _ | assumption | exact Bw.out (by assumption) | refine bw_alloc ?_ _ | refine bw_step ?_ (by assumption) | refine Below.alloc ?_ ?_ _ | refine Below.drew ?_ | refine below_drewN ?_ _ | refine Below.setCell ?_ ?_ _ | refine below_step ?_ (by assumption) ?_ | exact Nat.le_refl _) | omega | (simp; omega) | (simp; done)))))).mono ?_
 rintro e w1 ⟨rfl, hb1⟩
 have R_r_1 : Row w1 (w.heap.size) [.int .i64 r.id, .int .i64 r.ho, .int .i64 r.kd, .int .i64 r.jn, .bool r.ac, .slice r.ba r.bl.length r.bc] := by (repeat' (first | (with_reducible assumption) | (with_reducible refine Row.new' _ _ _ (by first | rfl | (simp; done) | omega)) | (with_reducible first | refine Row.alloc ?_ _ | refine Row.drew ?_ | refine Row.step ?_ (by assumption) | refine Row.drewN ?_ _) | (with_reducible refine Row.set2' ?_ _ _; first | exact ⟨_, _, by assumption⟩ | exact ⟨_, _, Row.alloc (by assumption) _⟩) | (with_reducible refine Row.other ?_ (by first | omega | (simp; omega)) _)))
 have c_r_0_1 := R_r_1.cell 0 rfl
 have c_r_1_1 := R_r_1.cell 1 rfl
 have c_r_2_1 := R_r_1.cell 2 rfl
 have c_r_3_1 := R_r_1.cell 3 rfl
 have c_r_4_1 := R_r_1.cell 4 rfl
 have c_r_5_1 := R_r_1.cell 5 rfl
 have l_r_1 := R_r_1.lt
 have R_s_1 : Row w1 (w.heap.size + 1) [.int .i64 (f), .int .i64 (u)] := by (repeat' (first | (with_reducible assumption) | (with_reducible refine Row.new' _ _ _ (by first | rfl | (simp; done) | omega)) | (with_reducible first | refine Row.alloc ?_ _ | refine Row.drew ?_ | refine Row.step ?_ (by assumption) | refine Row.drewN ?_ _) | (with_reducible refine Row.set2' ?_ _ _; first | exact ⟨_, _, by assumption⟩ | exact ⟨_, _, Row.alloc (by assumption) _⟩) | (with_reducible refine Row.other ?_ (by first | omega | (simp; omega)) _)))
 have c_s_0_1 := R_s_1.cell 0 rfl
 have c_s_1_1 := R_s_1.cell 1 rfl
 have l_s_1 := R_s_1.lt
 have HB1 : Below w.heap.size w w1 := by (repeat' (first | (with_reducible first | exact Below.refl _ _ | assumption | exact Bw.out (by assumption) | refine bw_alloc ?_ _ | refine bw_step ?_ (by assumption) | refine Below.alloc ?_ ?_ _ | refine Below.drew ?_ | refine below_drewN ?_ _ | refine Below.setCell ?_ ?_ _ | refine below_step ?_ (by assumption) ?_ | exact Nat.le_refl _) | omega | (simp; omega) | (simp; done)))
 go_wp2_with fail
 refine (isPeriod_yes f u _ h0 h1 h2).mono ?_
 rintro e w2 ⟨rfl, hb2⟩
 have R_r_2 : Row w2 (w.heap.size) [.int .i64 r.id, .int .i64 r.ho, .int .i64 r.kd, .int .i64 r.jn, .bool r.ac, .slice r.ba r.bl.length r.bc] := by (repeat' (first | (with_reducible assumption) | (with_reducible refine Row.new' _ _ _ (by first | rfl | (simp; done) | omega)) | (with_reducible first | refine Row.alloc ?_ _ | refine Row.drew ?_ | refine Row.step ?_ (by assumption) | refine Row.drewN ?_ _) | (with_reducible refine Row.set2' ?_ _ _; first | exact ⟨_, _, by assumption⟩ | exact ⟨_, _, Row.alloc (by assumption) _⟩) | (with_reducible refine Row.other ?_ (by first | omega | (simp; omega)) _)))
 have c_r_0_2 := R_r_2.cell 0 rfl
 have c_r_1_2 := R_r_2.cell 1 rfl
 have c_r_2_2 := R_r_2.cell 2 rfl
 have c_r_3_2 := R_r_2.cell 3 rfl
 have c_r_4_2 := R_r_2.cell 4 rfl
 have c_r_5_2 := R_r_2.cell 5 rfl
 have l_r_2 := R_r_2.lt
 have R_s_2 : Row w2 (w.heap.size + 1) [.int .i64 (f), .int .i64 (u)] := by (repeat' (first | (with_reducible assumption) | (with_reducible refine Row.new' _ _ _ (by first | rfl | (simp; done) | omega)) | (with_reducible first | refine Row.alloc ?_ _ | refine Row.drew ?_ | refine Row.step ?_ (by assumption) | refine Row.drewN ?_ _) | (with_reducible refine Row.set2' ?_ _ _; first | exact ⟨_, _, by assumption⟩ | exact ⟨_, _, Row.alloc (by assumption) _⟩) | (with_reducible refine Row.other ?_ (by first | omega | (simp; omega)) _)))
 have c_s_0_2 := R_s_2.cell 0 rfl
 have c_s_1_2 := R_s_2.cell 1 rfl
 have l_s_2 := R_s_2.lt
 have HB2 : Below w.heap.size w w2 := by (repeat' (first | (with_reducible first | exact Below.refl _ _ | assumption | exact Bw.out (by assumption) | refine bw_alloc ?_ _ | refine bw_step ?_ (by assumption) | refine Below.alloc ?_ ?_ _ | refine Below.drew ?_ | refine below_drewN ?_ _ | refine Below.setCell ?_ ?_ _ | refine below_step ?_ (by assumption) ?_ | exact Nat.le_refl _) | omega | (simp; omega) | (simp; done)))
 clear R_r_1 c_r_0_1 c_r_1_1 c_r_2_1 c_r_3_1 c_r_4_1 c_r_5_1 R_s_1 c_s_0_1 c_s_1_1 hb1 HB1
 go_wp2_with fail
 refine (free_p r f u p HP.out _ (HI.out.step (by (repeat' (first | (with_reducible first | exact Below.refl _ _ | assumption | exact Bw.out (by assumption) | refine bw_alloc ?_ _ | refine bw_step ?_ (by assumption) | refine Below.alloc ?_ ?_ _ | refine Below.drew ?_ | refine below_drewN ?_ _ | refine Below.setCell ?_ ?_ _ | refine below_step ?_ (by assumption) ?_ | exact Nat.le_refl _) | omega | (simp; omega) | (simp; done))))) (formedR_in HV.out).2.2.2 h0 h1 h2).mono ?_
 rintro e w3 ⟨rfl, hb3⟩
 have R_r_3 : Row w3 (w.heap.size) [.int .i64 r.id, .int .i64 r.ho, .int .i64 r.kd, .int .i64 r.jn, .bool r.ac, .slice r.ba r.bl.length r.bc] := by (repeat' (first | (with_reducible assumption) | (with_reducible refine Row.new' _ _ _ (by first | rfl | (simp; done) | omega)) | (with_reducible first | refine Row.alloc ?_ _ | refine Row.drew ?_ | refine Row.step ?_ (by assumption) | refine Row.drewN ?_ _) | (with_reducible refine Row.set2' ?_ _ _; first | exact ⟨_, _, by assumption⟩ | exact ⟨_, _, Row.alloc (by assumption) _⟩) | (with_reducible refine Row.other ?_ (by first | omega | (simp; omega)) _)))
 have c_r_0_3 := R_r_3.cell 0 rfl
 have c_r_1_3 := R_r_3.cell 1 rfl
 have c_r_2_3 := R_r_3.cell 2 rfl
 have c_r_3_3 := R_r_3.cell 3 rfl
 have c_r_4_3 := R_r_3.cell 4 rfl
 have c_r_5_3 := R_r_3.cell 5 rfl
 have l_r_3 := R_r_3.lt
 have R_s_3 : Row w3 (w.heap.size + 1) [.int .i64 (f), .int .i64 (u)] := by (repeat' (first | (with_reducible assumption) | (with_reducible refine Row.new' _ _ _ (by first | rfl | (simp; done) | omega)) | (with_reducible first | refine Row.alloc ?_ _ | refine Row.drew ?_ | refine Row.step ?_ (by assumption) | refine Row.drewN ?_ _) | (with_reducible refine Row.set2' ?_ _ _; first | exact ⟨_, _, by assumption⟩ | exact ⟨_, _, Row.alloc (by assumption) _⟩) | (with_reducible refine Row.other ?_ (by first | omega | (simp; omega)) _)))
 have c_s_0_3 := R_s_3.cell 0 rfl
 have c_s_1_3 := R_s_3.cell 1 rfl
 have l_s_3 := R_s_3.lt
 have HB3 : Below w.heap.size w w3 := by (repeat' (first | (with_reducible first | exact Below.refl _ _ | assumption | exact Bw.out (by assumption) | refine bw_alloc ?_ _ | refine bw_step ?_ (by assumption) | refine Below.alloc ?_ ?_ _ | refine Below.drew ?_ | refine below_drewN ?_ _ | refine Below.setCell ?_ ?_ _ | refine below_step ?_ (by assumption) ?_ | exact Nat.le_refl _) | omega | (simp; omega) | (simp; done)))
 clear R_r_2 c_r_0_2 c_r_1_2 c_r_2_2 c_r_3_2 c_r_4_2 c_r_5_2 R_s_2 c_s_0_2 c_s_1_2 hb2 HB2
 go_wp2_with fail
 go_ret2
 refine ⟨(by first | rfl | exact ret_bool (by first | rfl | (simp; done) | (simp; omega))), ?_⟩
 (repeat' (first | (with_reducible first | exact Below.refl _ _ | assumption | exact Bw.out (by assumption) | refine bw_alloc ?_ _ | refine bw_step ?_ (by assumption) | refine Below.alloc ?_ ?_ _ | refine Below.drew ?_ | refine below_drewN ?_ _ | refine Below.setCell ?_ ?_ _ | refine below_step ?_ (by assumption) ?_ | exact Nat.le_refl _) | omega | (simp; omega) | (simp; done)))
theorem inZ_yes {n lo hi : Int} (h : lo ≤ n ∧ n ≤ hi) : inZ n lo hi = true := inZ_iff.2 h
set_option maxRecDepth 100000 in
set_option maxHeartbeats 1600000 in
theorem wrong_no (s : StayV) (w : World) (hg : s.Good) :
  Calls Tryz.prog 45 #[.agg #[.int .i64 s.id, .int .i64 s.kd, .int .i64 s.fr, .int .i64 s.un, .int .i64 s.ps, .int .i64 s.rm, .int .i64 s.wt, .bool s.ac, .bool s.inn]] w fun e w' => e = .returned (.bool false) ∧ Below w.heap.size w w' := by
 obtain ⟨id, kd, fr, un, ps, rm, wt, ac, inn⟩ := s
 obtain ⟨⟨g1, g2, g3, g4⟩, g5, g6, g7, g8, g9, g10⟩ := hg
 simp only at g1 g2 g3 g4 g5 g6 g7 g8 g9 g10 ⊢
 subst g9
 have hne : ((0 : Int) != id) = true := by simp; omega
 have hsub : (un - fr : Int) = un - fr := rfl
 go_enter Tryz.func45, Tryz.ntmps45
 go_wp2_with fail
 refine (swithin_p id 1 1000000 true (inZ_yes g5) _).mono ?_
 rintro e w1 ⟨rfl, hb1⟩
 have R_s_1 : Row w1 (w.heap.size) [.int .i64 id, .int .i64 kd, .int .i64 fr, .int .i64 un, .int .i64 ps, .int .i64 rm, .int .i64 0, .bool ac, .bool inn] := by (repeat' (first | (with_reducible assumption) | (with_reducible refine Row.new' _ _ _ (by first | rfl | (simp; done) | omega)) | (with_reducible first | refine Row.alloc ?_ _ | refine Row.drew ?_ | refine Row.step ?_ (by assumption) | refine Row.drewN ?_ _) | (with_reducible refine Row.set2' ?_ _ _; first | exact ⟨_, _, by assumption⟩ | exact ⟨_, _, Row.alloc (by assumption) _⟩) | (with_reducible refine Row.other ?_ (by first | omega | (simp; omega)) _)))
 have c_s_0_1 := R_s_1.cell 0 rfl
 have c_s_1_1 := R_s_1.cell 1 rfl
 have c_s_2_1 := R_s_1.cell 2 rfl
 have c_s_3_1 := R_s_1.cell 3 rfl
 have c_s_4_1 := R_s_1.cell 4 rfl
 have c_s_5_1 := R_s_1.cell 5 rfl
 have c_s_6_1 := R_s_1.cell 6 rfl
 have c_s_7_1 := R_s_1.cell 7 rfl
 have c_s_8_1 := R_s_1.cell 8 rfl
 have l_s_1 := R_s_1.lt
 have HB1 : Below w.heap.size w w1 := by (repeat' (first | (with_reducible first | exact Below.refl _ _ | assumption | exact Bw.out (by assumption) | refine bw_alloc ?_ _ | refine bw_step ?_ (by assumption) | refine Below.alloc ?_ ?_ _ | refine Below.drew ?_ | refine below_drewN ?_ _ | refine Below.setCell ?_ ?_ _ | refine below_step ?_ (by assumption) ?_ | exact Nat.le_refl _) | omega | (simp; omega) | (simp; done)))
 go_wp2_with fail
 refine (swithin_p kd 1 20 true (inZ_yes g6) _).mono ?_
 rintro e w2 ⟨rfl, hb2⟩
 have R_s_2 : Row w2 (w.heap.size) [.int .i64 id, .int .i64 kd, .int .i64 fr, .int .i64 un, .int .i64 ps, .int .i64 rm, .int .i64 0, .bool ac, .bool inn] := by (repeat' (first | (with_reducible assumption) | (with_reducible refine Row.new' _ _ _ (by first | rfl | (simp; done) | omega)) | (with_reducible first | refine Row.alloc ?_ _ | refine Row.drew ?_ | refine Row.step ?_ (by assumption) | refine Row.drewN ?_ _) | (with_reducible refine Row.set2' ?_ _ _; first | exact ⟨_, _, by assumption⟩ | exact ⟨_, _, Row.alloc (by assumption) _⟩) | (with_reducible refine Row.other ?_ (by first | omega | (simp; omega)) _)))
 have c_s_0_2 := R_s_2.cell 0 rfl
 have c_s_1_2 := R_s_2.cell 1 rfl
 have c_s_2_2 := R_s_2.cell 2 rfl
 have c_s_3_2 := R_s_2.cell 3 rfl
 have c_s_4_2 := R_s_2.cell 4 rfl
 have c_s_5_2 := R_s_2.cell 5 rfl
 have c_s_6_2 := R_s_2.cell 6 rfl
 have c_s_7_2 := R_s_2.cell 7 rfl
 have c_s_8_2 := R_s_2.cell 8 rfl
 have l_s_2 := R_s_2.lt
 have HB2 : Below w.heap.size w w2 := by (repeat' (first | (with_reducible first | exact Below.refl _ _ | assumption | exact Bw.out (by assumption) | refine bw_alloc ?_ _ | refine bw_step ?_ (by assumption) | refine Below.alloc ?_ ?_ _ | refine Below.drew ?_ | refine below_drewN ?_ _ | refine Below.setCell ?_ ?_ _ | refine below_step ?_ (by assumption) ?_ | exact Nat.le_refl _) | omega | (simp; omega) | (simp; done)))
 clear R_s_1 c_s_0_1 c_s_1_1 c_s_2_1 c_s_3_1 c_s_4_1 c_s_5_1 c_s_6_1 c_s_7_1 c_s_8_1 hb1 HB1
 go_wp2_with fail
 refine (swithin_p ps 1 8 true (inZ_yes g7) _).mono ?_
 rintro e w3 ⟨rfl, hb3⟩
 have R_s_3 : Row w3 (w.heap.size) [.int .i64 id, .int .i64 kd, .int .i64 fr, .int .i64 un, .int .i64 ps, .int .i64 rm, .int .i64 0, .bool ac, .bool inn] := by (repeat' (first | (with_reducible assumption) | (with_reducible refine Row.new' _ _ _ (by first | rfl | (simp; done) | omega)) | (with_reducible first | refine Row.alloc ?_ _ | refine Row.drew ?_ | refine Row.step ?_ (by assumption) | refine Row.drewN ?_ _) | (with_reducible refine Row.set2' ?_ _ _; first | exact ⟨_, _, by assumption⟩ | exact ⟨_, _, Row.alloc (by assumption) _⟩) | (with_reducible refine Row.other ?_ (by first | omega | (simp; omega)) _)))
 have c_s_0_3 := R_s_3.cell 0 rfl
 have c_s_1_3 := R_s_3.cell 1 rfl
 have c_s_2_3 := R_s_3.cell 2 rfl
 have c_s_3_3 := R_s_3.cell 3 rfl
 have c_s_4_3 := R_s_3.cell 4 rfl
 have c_s_5_3 := R_s_3.cell 5 rfl
 have c_s_6_3 := R_s_3.cell 6 rfl
 have c_s_7_3 := R_s_3.cell 7 rfl
 have c_s_8_3 := R_s_3.cell 8 rfl
 have l_s_3 := R_s_3.lt
 have HB3 : Below w.heap.size w w3 := by (repeat' (first | (with_reducible first | exact Below.refl _ _ | assumption | exact Bw.out (by assumption) | refine bw_alloc ?_ _ | refine bw_step ?_ (by assumption) | refine Below.alloc ?_ ?_ _ | refine Below.drew ?_ | refine below_drewN ?_ _ | refine Below.setCell ?_ ?_ _ | refine below_step ?_ (by assumption) ?_ | exact Nat.le_refl _) | omega | (simp; omega) | (simp; done)))
 clear R_s_2 c_s_0_2 c_s_1_2 c_s_2_2 c_s_3_2 c_s_4_2 c_s_5_2 c_s_6_2 c_s_7_2 c_s_8_2 hb2 HB2
 go_wp2_with fail
 refine (swithin_p rm 0 1000000 true (inZ_yes g8) _).mono ?_
 rintro e w4 ⟨rfl, hb4⟩
 have R_s_4 : Row w4 (w.heap.size) [.int .i64 id, .int .i64 kd, .int .i64 fr, .int .i64 un, .int .i64 ps, .int .i64 rm, .int .i64 0, .bool ac, .bool inn] := by (repeat' (first | (with_reducible assumption) | (with_reducible refine Row.new' _ _ _ (by first | rfl | (simp; done) | omega)) | (with_reducible first | refine Row.alloc ?_ _ | refine Row.drew ?_ | refine Row.step ?_ (by assumption) | refine Row.drewN ?_ _) | (with_reducible refine Row.set2' ?_ _ _; first | exact ⟨_, _, by assumption⟩ | exact ⟨_, _, Row.alloc (by assumption) _⟩) | (with_reducible refine Row.other ?_ (by first | omega | (simp; omega)) _)))
 have c_s_0_4 := R_s_4.cell 0 rfl
 have c_s_1_4 := R_s_4.cell 1 rfl
 have c_s_2_4 := R_s_4.cell 2 rfl
 have c_s_3_4 := R_s_4.cell 3 rfl
 have c_s_4_4 := R_s_4.cell 4 rfl
 have c_s_5_4 := R_s_4.cell 5 rfl
 have c_s_6_4 := R_s_4.cell 6 rfl
 have c_s_7_4 := R_s_4.cell 7 rfl
 have c_s_8_4 := R_s_4.cell 8 rfl
 have l_s_4 := R_s_4.lt
 have HB4 : Below w.heap.size w w4 := by (repeat' (first | (with_reducible first | exact Below.refl _ _ | assumption | exact Bw.out (by assumption) | refine bw_alloc ?_ _ | refine bw_step ?_ (by assumption) | refine Below.alloc ?_ ?_ _ | refine Below.drew ?_ | refine below_drewN ?_ _ | refine Below.setCell ?_ ?_ _ | refine below_step ?_ (by assumption) ?_ | exact Nat.le_refl _) | omega | (simp; omega) | (simp; done)))
 clear R_s_3 c_s_0_3 c_s_1_3 c_s_2_3 c_s_3_3 c_s_4_3 c_s_5_3 c_s_6_3 c_s_7_3 c_s_8_3 hb3 HB3
 go_wp2_with fail
 refine (swithin_p 0 0 1000000 true (by decide) _).mono ?_
 rintro e w5 ⟨rfl, hb5⟩
 have R_s_5 : Row w5 (w.heap.size) [.int .i64 id, .int .i64 kd, .int .i64 fr, .int .i64 un, .int .i64 ps, .int .i64 rm, .int .i64 0, .bool ac, .bool inn] := by (repeat' (first | (with_reducible assumption) | (with_reducible refine Row.new' _ _ _ (by first | rfl | (simp; done) | omega)) | (with_reducible first | refine Row.alloc ?_ _ | refine Row.drew ?_ | refine Row.step ?_ (by assumption) | refine Row.drewN ?_ _) | (with_reducible refine Row.set2' ?_ _ _; first | exact ⟨_, _, by assumption⟩ | exact ⟨_, _, Row.alloc (by assumption) _⟩) | (with_reducible refine Row.other ?_ (by first | omega | (simp; omega)) _)))
 have c_s_0_5 := R_s_5.cell 0 rfl
 have c_s_1_5 := R_s_5.cell 1 rfl
 have c_s_2_5 := R_s_5.cell 2 rfl
 have c_s_3_5 := R_s_5.cell 3 rfl
 have c_s_4_5 := R_s_5.cell 4 rfl
 have c_s_5_5 := R_s_5.cell 5 rfl
 have c_s_6_5 := R_s_5.cell 6 rfl
 have c_s_7_5 := R_s_5.cell 7 rfl
 have c_s_8_5 := R_s_5.cell 8 rfl
 have l_s_5 := R_s_5.lt
 have HB5 : Below w.heap.size w w5 := by (repeat' (first | (with_reducible first | exact Below.refl _ _ | assumption | exact Bw.out (by assumption) | refine bw_alloc ?_ _ | refine bw_step ?_ (by assumption) | refine Below.alloc ?_ ?_ _ | refine Below.drew ?_ | refine below_drewN ?_ _ | refine Below.setCell ?_ ?_ _ | refine below_step ?_ (by assumption) ?_ | exact Nat.le_refl _) | omega | (simp; omega) | (simp; done)))
 clear R_s_4 c_s_0_4 c_s_1_4 c_s_2_4 c_s_3_4 c_s_4_4 c_s_5_4 c_s_6_4 c_s_7_4 c_s_8_4 hb4 HB4
 cases inn with
 | false =>
  go_wp2_with fail
  go_ret
  refine ⟨(by first | rfl | exact ret_bool (by first | rfl | (simp; done) | (simp; omega))), ?_⟩
  (repeat' (first | (with_reducible first | exact Below.refl _ _ | assumption | exact Bw.out (by assumption) | refine bw_alloc ?_ _ | refine bw_step ?_ (by assumption) | refine Below.alloc ?_ ?_ _ | refine Below.drew ?_ | refine below_drewN ?_ _ | refine Below.setCell ?_ ?_ _ | refine below_step ?_ (by assumption) ?_ | exact Nat.le_refl _) | omega | (simp; omega) | (simp; done)))
 | true =>
  have hrm : (rm == 0) = false := by simpa using g10 rfl
  go_wp2_with fail
  go_ret
  refine ⟨(by first | rfl | exact ret_bool (by first | rfl | (simp; done) | (simp; omega))), ?_⟩
  (repeat' (first | (with_reducible first | exact Below.refl _ _ | assumption | exact Bw.out (by assumption) | refine bw_alloc ?_ _ | refine bw_step ?_ (by assumption) | refine Below.alloc ?_ ?_ _ | refine Below.drew ?_ | refine below_drewN ?_ _ | refine Below.setCell ?_ ?_ _ | refine below_step ?_ (by assumption) ?_ | exact Nat.le_refl _) | omega | (simp; omega) | (simp; done)))
set_option maxHeartbeats 1600000 in
theorem unjoined_p (r : RoomV) (w : World) :
  Calls Tryz.prog 55 #[.agg #[.int .i64 r.id, .int .i64 r.ho, .int .i64 r.kd, .int .i64 r.jn, .bool r.ac, .slice r.ba r.bl.length r.bc]] w fun e w' => e = .returned (.agg #[.int .i64 r.id, .int .i64 r.ho, .int .i64 r.kd, .int .i64 0, .bool r.ac, .slice r.ba r.bl.length r.bc]) ∧ Below w.heap.size w w' := by
 go_enter Tryz.func55, Tryz.ntmps55
 go_wp2_with fail
 refine bodyPost_ret (v := .agg #[.int .i64 r.id, .int .i64 r.ho, .int .i64 r.kd, .int .i64 0, .bool r.ac, .slice r.ba r.bl.length r.bc]) (by simp [results, Tryz.results55, go_sem]) rfl ?_
 exact ⟨rfl, by (repeat' (first | (with_reducible first | exact Below.refl _ _ | assumption | exact Bw.out (by assumption) | refine bw_alloc ?_ _ | refine bw_step ?_ (by assumption) | refine Below.alloc ?_ ?_ _ | refine Below.drew ?_ | refine below_drewN ?_ _ | refine Below.setCell ?_ ?_ _ | refine below_step ?_ (by assumption) ?_ | exact Nat.le_refl _) | omega | (simp; omega) | (simp; done)))⟩
end Go.Proofs.YtlmajlfhjbhdpaaGreat
