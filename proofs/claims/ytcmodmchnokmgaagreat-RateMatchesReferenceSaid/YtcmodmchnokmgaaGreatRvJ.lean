/-
 RateMatchesReference: for all expressions, rates, asks and numbers, valid or not, all functions return what the reference implementation returns.
 No condition: for every input (what is not few is not looked at).
-/
import Derived.Test.YtcmodmchnokmgaaGreatMH
import Derived.Test.YtcmodmchnokmgaaGreatMG
namespace Go.Proofs.YtcmodmchnokmgaaGreat
set_option linter.unusedSimpArgs false
set_option linter.unusedVariables false
open Go.ChangeShapes Go.WideShapes Go.ChangeAt Go.RowKit
attribute [local go_sem ↓] ld_eq st_eq
attribute [local go_sem] ldR_run ldV_drew ldV_alloc ldV_at16 stR_run sz16_rate stB_drew stB_at16 stW_at16 stB_set ldV_set stW_cell stW_frozen ldV_stW stB_stW
set_option maxRecDepth 100000 in
set_option maxHeartbeats 6400000 in
theorem matches_walk (x : Ex) (v0 v1 v2 v3 : Int) (a : Option Addr) (n cap : Nat) (l : List RateV) (k fr un ps nt : Int) (_ : x.Wf) (_ : I64 v0 ∧ I64 v1 ∧ I64 v2 ∧ I64 v3) (_ : ∀ y ∈ l, y.Wf) (wa : I64 k ∧ I64 fr ∧ I64 un ∧ I64 ps) (wn : (Lit.int .i64 nt).wf = true) (w : World) (hx : x.In w) (hl : SlR w a n l ∧ n ≤ cap ∧ cap ≤ maxLen) :
  Calls Tryz.prog 3 #[x.val, .agg #[.int .i64 v0, .int .i64 v1, .int .i64 v2, .int .i64 v3], .slice a n cap, .agg #[.int .i64 k, .int .i64 fr, .int .i64 un, .int .i64 ps], .int .i64 nt] w fun e w' => e = .returned (.bool true) ∧ Below w.heap.size w w' := by
 rw [show x.val = .agg #[.int .i64 x.op, .int .i64 x.n, .slice x.at' x.ks.length x.cap] from rfl]
 have HIN := Lib.hid hx
 have HL := Lib.hid hl.1
 have hm : n ≤ 9223372036854775807 := by have h1 := hl.2.1; have h2 := hl.2.2; unfold maxLen at h2; omega
 obtain ⟨p1, hp1⟩ : ∃ p, fewE x = p := ⟨_, rfl⟩
 obtain ⟨p2, hp2⟩ : ∃ p, fewR l = p := ⟨_, rfl⟩
 obtain ⟨N, D, F, hev⟩ : ∃ N D F, evalV x v0 v1 v2 v3 = (N, D, F) := ⟨_, _, _, rfl⟩
 obtain ⟨N2, I2, E2, hni⟩ : ∃ N I E, nightV l ⟨k, fr, un, ps⟩ nt = (N, I, E) := ⟨_, _, _, rfl⟩
 obtain ⟨P, K3, E3, hpr⟩ : ∃ P K E, priceV l ⟨k, fr, un, ps⟩ = (P, K, E) := ⟨_, _, _, rfl⟩
 have P1 := Lib.hid hp1
 have P2 := Lib.hid hp2
 have HEV := Lib.hid hev
 have HNI := Lib.hid hni
 have HPR := Lib.hid hpr
 clear hp1 hp2 hev hni hpr hx hl wa wn
 go_enter Tryz.func3, Tryz.ntmps3
 go_wp2_with fail
 refine (head_any _).mono ?_
 rintro e w1 ⟨rfl, hb1⟩
 have R_e_1 : Row w1 (w.heap.size) [.int .i64 x.op, .int .i64 x.n, .slice x.at' x.ks.length x.cap] := by (repeat' (first | (with_reducible assumption) | (with_reducible refine Row.new' _ _ _ (by first | rfl | (simp; done) | omega)) | (with_reducible first | refine Row.alloc ?_ _ | refine Row.drew ?_ | refine Row.step ?_ (by assumption) | refine Row.drewN ?_ _) | (with_reducible refine Row.set2' ?_ _ _; first | exact ⟨_, _, by assumption⟩ | exact ⟨_, _, Row.alloc (by assumption) _⟩) | (with_reducible refine Row.other ?_ (by first | omega | (simp; omega)) _)))
 have c_e_0_1 := R_e_1.cell 0 rfl
 have c_e_1_1 := R_e_1.cell 1 rfl
 have c_e_2_1 := R_e_1.cell 2 rfl
 have l_e_1 := R_e_1.lt
 have R_v_1 : Row w1 (w.heap.size + 1) [.int .i64 (v0), .int .i64 (v1), .int .i64 (v2), .int .i64 (v3)] := by (repeat' (first | (with_reducible assumption) | (with_reducible refine Row.new' _ _ _ (by first | rfl | (simp; done) | omega)) | (with_reducible first | refine Row.alloc ?_ _ | refine Row.drew ?_ | refine Row.step ?_ (by assumption) | refine Row.drewN ?_ _) | (with_reducible refine Row.set2' ?_ _ _; first | exact ⟨_, _, by assumption⟩ | exact ⟨_, _, Row.alloc (by assumption) _⟩) | (with_reducible refine Row.other ?_ (by first | omega | (simp; omega)) _)))
 have c_v_0_1 := R_v_1.cell 0 rfl
 have c_v_1_1 := R_v_1.cell 1 rfl
 have c_v_2_1 := R_v_1.cell 2 rfl
 have c_v_3_1 := R_v_1.cell 3 rfl
 have l_v_1 := R_v_1.lt
 have R_a_1 : Row w1 (w.heap.size + 1 + 1) [.int .i64 (k), .int .i64 (fr), .int .i64 (un), .int .i64 (ps)] := by (repeat' (first | (with_reducible assumption) | (with_reducible refine Row.new' _ _ _ (by first | rfl | (simp; done) | omega)) | (with_reducible first | refine Row.alloc ?_ _ | refine Row.drew ?_ | refine Row.step ?_ (by assumption) | refine Row.drewN ?_ _) | (with_reducible refine Row.set2' ?_ _ _; first | exact ⟨_, _, by assumption⟩ | exact ⟨_, _, Row.alloc (by assumption) _⟩) | (with_reducible refine Row.other ?_ (by first | omega | (simp; omega)) _)))
 have c_a_0_1 := R_a_1.cell 0 rfl
 have c_a_1_1 := R_a_1.cell 1 rfl
 have c_a_2_1 := R_a_1.cell 2 rfl
 have c_a_3_1 := R_a_1.cell 3 rfl
 have l_a_1 := R_a_1.lt
 have HB1 : Below w.heap.size w w1 := by (repeat' (first | (with_reducible first | exact Below.refl _ _ | assumption | exact Bw.out (by assumption) | refine bw_alloc ?_ _ | refine bw_step ?_ (by assumption) | refine Below.alloc ?_ ?_ _ | refine Below.drew ?_ | refine below_drewN ?_ _ | refine Below.setCell ?_ ?_ _ | refine below_step ?_ (by assumption) ?_ | exact Nat.le_refl _) | omega | (simp; omega) | (simp; done)))
 go_wp2_with fail
 refine (R_few_p x _ (HIN.out.step HB1) p1 P1.out).mono ?_
 rintro e w2 ⟨rfl, hb2⟩
 have R_e_2 : Row w2 (w.heap.size) [.int .i64 x.op, .int .i64 x.n, .slice x.at' x.ks.length x.cap] := by (repeat' (first | (with_reducible assumption) | (with_reducible refine Row.new' _ _ _ (by first | rfl | (simp; done) | omega)) | (with_reducible first | refine Row.alloc ?_ _ | refine Row.drew ?_ | refine Row.step ?_ (by assumption) | refine Row.drewN ?_ _) | (with_reducible refine Row.set2' ?_ _ _; first | exact ⟨_, _, by assumption⟩ | exact ⟨_, _, Row.alloc (by assumption) _⟩) | (with_reducible refine Row.other ?_ (by first | omega | (simp; omega)) _)))
 have c_e_0_2 := R_e_2.cell 0 rfl
 have c_e_1_2 := R_e_2.cell 1 rfl
 have c_e_2_2 := R_e_2.cell 2 rfl
 have l_e_2 := R_e_2.lt
 have R_v_2 : Row w2 (w.heap.size + 1) [.int .i64 (v0), .int .i64 (v1), .int .i64 (v2), .int .i64 (v3)] := by (repeat' (first | (with_reducible assumption) | (with_reducible refine Row.new' _ _ _ (by first | rfl | (simp; done) | omega)) | (with_reducible first | refine Row.alloc ?_ _ | refine Row.drew ?_ | refine Row.step ?_ (by assumption) | refine Row.drewN ?_ _) | (with_reducible refine Row.set2' ?_ _ _; first | exact ⟨_, _, by assumption⟩ | exact ⟨_, _, Row.alloc (by assumption) _⟩) | (with_reducible refine Row.other ?_ (by first | omega | (simp; omega)) _)))
 have c_v_0_2 := R_v_2.cell 0 rfl
 have c_v_1_2 := R_v_2.cell 1 rfl
 have c_v_2_2 := R_v_2.cell 2 rfl
 have c_v_3_2 := R_v_2.cell 3 rfl
 have l_v_2 := R_v_2.lt
 have R_a_2 : Row w2 (w.heap.size + 1 + 1) [.int .i64 (k), .int .i64 (fr), .int .i64 (un), .int .i64 (ps)] := by (repeat' (first | (with_reducible assumption) | (with_reducible refine Row.new' _ _ _ (by first | rfl | (simp; done) | omega)) | (with_reducible first | refine Row.alloc ?_ _ | refine Row.drew ?_ | refine Row.step ?_ (by assumption) | refine Row.drewN ?_ _) | (with_reducible refine Row.set2' ?_ _ _; first | exact ⟨_, _, by assumption⟩ | exact ⟨_, _, Row.alloc (by assumption) _⟩) | (with_reducible refine Row.other ?_ (by first | omega | (simp; omega)) _)))
 have c_a_0_2 := R_a_2.cell 0 rfl
 have c_a_1_2 := R_a_2.cell 1 rfl
 have c_a_2_2 := R_a_2.cell 2 rfl
 have c_a_3_2 := R_a_2.cell 3 rfl
 have l_a_2 := R_a_2.lt
 have HB2 : Below w.heap.size w w2 := by (repeat' (first | (with_reducible first | exact Below.refl _ _ | assumption | exact Bw.out (by assumption) | refine bw_alloc ?_ _ | refine bw_step ?_ (by assumption) | refine Below.alloc ?_ ?_ _ | refine Below.drew ?_ | refine below_drewN ?_ _ | refine Below.setCell ?_ ?_ _ | refine below_step ?_ (by assumption) ?_ | exact Nat.le_refl _) | omega | (simp; omega) | (simp; done)))
 clear R_e_1 c_e_0_1 c_e_1_1 c_e_2_1 R_v_1 c_v_0_1 c_v_1_1 c_v_2_1 c_v_3_1 R_a_1 c_a_0_1 c_a_1_1 c_a_2_1 c_a_3_1 hb1 HB1
 cases p1 with
 | false =>
  go_wp2_with fail
  go_ret
  refine ⟨(by first | rfl | exact ret_bool (by first | rfl | (simp; done) | (simp; omega))), ?_⟩
  (repeat' (first | (with_reducible first | exact Below.refl _ _ | assumption | exact Bw.out (by assumption) | refine bw_alloc ?_ _ | refine bw_step ?_ (by assumption) | refine Below.alloc ?_ ?_ _ | refine Below.drew ?_ | refine below_drewN ?_ _ | refine Below.setCell ?_ ?_ _ | refine below_step ?_ (by assumption) ?_ | exact Nat.le_refl _) | omega | (simp; omega) | (simp; done)))
 | true =>
  go_wp2_with fail
  refine (R_fewR_p a n cap l _ hm (HL.out.step HB2) p2 P2.out).mono ?_
  rintro e w3 ⟨rfl, hb3⟩
  have R_e_3 : Row w3 (w.heap.size) [.int .i64 x.op, .int .i64 x.n, .slice x.at' x.ks.length x.cap] := by (repeat' (first | (with_reducible assumption) | (with_reducible refine Row.new' _ _ _ (by first | rfl | (simp; done) | omega)) | (with_reducible first | refine Row.alloc ?_ _ | refine Row.drew ?_ | refine Row.step ?_ (by assumption) | refine Row.drewN ?_ _) | (with_reducible refine Row.set2' ?_ _ _; first | exact ⟨_, _, by assumption⟩ | exact ⟨_, _, Row.alloc (by assumption) _⟩) | (with_reducible refine Row.other ?_ (by first | omega | (simp; omega)) _)))
  have c_e_0_3 := R_e_3.cell 0 rfl
  have c_e_1_3 := R_e_3.cell 1 rfl
  have c_e_2_3 := R_e_3.cell 2 rfl
  have l_e_3 := R_e_3.lt
  have R_v_3 : Row w3 (w.heap.size + 1) [.int .i64 (v0), .int .i64 (v1), .int .i64 (v2), .int .i64 (v3)] := by (repeat' (first | (with_reducible assumption) | (with_reducible refine Row.new' _ _ _ (by first | rfl | (simp; done) | omega)) | (with_reducible first | refine Row.alloc ?_ _ | refine Row.drew ?_ | refine Row.step ?_ (by assumption) | refine Row.drewN ?_ _) | (with_reducible refine Row.set2' ?_ _ _; first | exact ⟨_, _, by assumption⟩ | exact ⟨_, _, Row.alloc (by assumption) _⟩) | (with_reducible refine Row.other ?_ (by first | omega | (simp; omega)) _)))
  have c_v_0_3 := R_v_3.cell 0 rfl
  have c_v_1_3 := R_v_3.cell 1 rfl
  have c_v_2_3 := R_v_3.cell 2 rfl
  have c_v_3_3 := R_v_3.cell 3 rfl
  have l_v_3 := R_v_3.lt
  have R_a_3 : Row w3 (w.heap.size + 1 + 1) [.int .i64 (k), .int .i64 (fr), .int .i64 (un), .int .i64 (ps)] := by (repeat' (first | (with_reducible assumption) | (with_reducible refine Row.new' _ _ _ (by first | rfl | (simp; done) | omega)) | (with_reducible first | refine Row.alloc ?_ _ | refine Row.drew ?_ | refine Row.step ?_ (by assumption) | refine Row.drewN ?_ _) | (with_reducible refine Row.set2' ?_ _ _; first | exact ⟨_, _, by assumption⟩ | exact ⟨_, _, Row.alloc (by assumption) _⟩) | (with_reducible refine Row.other ?_ (by first | omega | (simp; omega)) _)))
  have c_a_0_3 := R_a_3.cell 0 rfl
  have c_a_1_3 := R_a_3.cell 1 rfl
  have c_a_2_3 := R_a_3.cell 2 rfl
  have c_a_3_3 := R_a_3.cell 3 rfl
  have l_a_3 := R_a_3.lt
  have HB3 : Below w.heap.size w w3 := by (repeat' (first | (with_reducible first | exact Below.refl _ _ | assumption | exact Bw.out (by assumption) | refine bw_alloc ?_ _ | refine bw_step ?_ (by assumption) | refine Below.alloc ?_ ?_ _ | refine Below.drew ?_ | refine below_drewN ?_ _ | refine Below.setCell ?_ ?_ _ | refine below_step ?_ (by assumption) ?_ | exact Nat.le_refl _) | omega | (simp; omega) | (simp; done)))
  clear R_e_2 c_e_0_2 c_e_1_2 c_e_2_2 R_v_2 c_v_0_2 c_v_1_2 c_v_2_2 c_v_3_2 R_a_2 c_a_0_2 c_a_1_2 c_a_2_2 c_a_3_2 hb2 HB2
  cases p2 with
  | false =>
   go_wp2_with fail
   go_ret
   refine ⟨(by first | rfl | exact ret_bool (by first | rfl | (simp; done) | (simp; omega))), ?_⟩
   (repeat' (first | (with_reducible first | exact Below.refl _ _ | assumption | exact Bw.out (by assumption) | refine bw_alloc ?_ _ | refine bw_step ?_ (by assumption) | refine Below.alloc ?_ ?_ _ | refine Below.drew ?_ | refine below_drewN ?_ _ | refine Below.setCell ?_ ?_ _ | refine below_step ?_ (by assumption) ?_ | exact Nat.le_refl _) | omega | (simp; omega) | (simp; done)))
  | true =>
   go_wp2_with fail
   refine (eval_p x v0 v1 v2 v3 _ (HIN.out.step HB3) N D F HEV.out).mono ?_
   rintro e w4 ⟨rfl, hb4⟩
   have R_e_4 : Row w4 (w.heap.size) [.int .i64 x.op, .int .i64 x.n, .slice x.at' x.ks.length x.cap] := by (repeat' (first | (with_reducible assumption) | (with_reducible refine Row.new' _ _ _ (by first | rfl | (simp; done) | omega)) | (with_reducible first | refine Row.alloc ?_ _ | refine Row.drew ?_ | refine Row.step ?_ (by assumption) | refine Row.drewN ?_ _) | (with_reducible refine Row.set2' ?_ _ _; first | exact ⟨_, _, by assumption⟩ | exact ⟨_, _, Row.alloc (by assumption) _⟩) | (with_reducible refine Row.other ?_ (by first | omega | (simp; omega)) _)))
   have c_e_0_4 := R_e_4.cell 0 rfl
   have c_e_1_4 := R_e_4.cell 1 rfl
   have c_e_2_4 := R_e_4.cell 2 rfl
   have l_e_4 := R_e_4.lt
   have R_v_4 : Row w4 (w.heap.size + 1) [.int .i64 (v0), .int .i64 (v1), .int .i64 (v2), .int .i64 (v3)] := by (repeat' (first | (with_reducible assumption) | (with_reducible refine Row.new' _ _ _ (by first | rfl | (simp; done) | omega)) | (with_reducible first | refine Row.alloc ?_ _ | refine Row.drew ?_ | refine Row.step ?_ (by assumption) | refine Row.drewN ?_ _) | (with_reducible refine Row.set2' ?_ _ _; first | exact ⟨_, _, by assumption⟩ | exact ⟨_, _, Row.alloc (by assumption) _⟩) | (with_reducible refine Row.other ?_ (by first | omega | (simp; omega)) _)))
   have c_v_0_4 := R_v_4.cell 0 rfl
   have c_v_1_4 := R_v_4.cell 1 rfl
   have c_v_2_4 := R_v_4.cell 2 rfl
   have c_v_3_4 := R_v_4.cell 3 rfl
   have l_v_4 := R_v_4.lt
   have R_a_4 : Row w4 (w.heap.size + 1 + 1) [.int .i64 (k), .int .i64 (fr), .int .i64 (un), .int .i64 (ps)] := by (repeat' (first | (with_reducible assumption) | (with_reducible refine Row.new' _ _ _ (by first | rfl | (simp; done) | omega)) | (with_reducible first | refine Row.alloc ?_ _ | refine Row.drew ?_ | refine Row.step ?_ (by assumption) | refine Row.drewN ?_ _) | (with_reducible refine Row.set2' ?_ _ _; first | exact ⟨_, _, by assumption⟩ | exact ⟨_, _, Row.alloc (by assumption) _⟩) | (with_reducible refine Row.other ?_ (by first | omega | (simp; omega)) _)))
   have c_a_0_4 := R_a_4.cell 0 rfl
   have c_a_1_4 := R_a_4.cell 1 rfl
   have c_a_2_4 := R_a_4.cell 2 rfl
   have c_a_3_4 := R_a_4.cell 3 rfl
   have l_a_4 := R_a_4.lt
   have HB4 : Below w.heap.size w w4 := by (repeat' (first | (with_reducible first | exact Below.refl _ _ | assumption | exact Bw.out (by assumption) | refine bw_alloc ?_ _ | refine bw_step ?_ (by assumption) | refine Below.alloc ?_ ?_ _ | refine Below.drew ?_ | refine below_drewN ?_ _ | refine Below.setCell ?_ ?_ _ | refine below_step ?_ (by assumption) ?_ | exact Nat.le_refl _) | omega | (simp; omega) | (simp; done)))
   clear R_e_3 c_e_0_3 c_e_1_3 c_e_2_3 R_v_3 c_v_0_3 c_v_1_3 c_v_2_3 c_v_3_3 R_a_3 c_a_0_3 c_a_1_3 c_a_2_3 c_a_3_3 hb3 HB3
   go_upto_region 5 with fail
   obtain ⟨w5, hw5⟩ : ∃ x, World.alloc w4 (.cells #[.int .i64 N, .int .i64 D] 33) = x := ⟨_, rfl⟩
   rw [hw5]
   have hb5 : Below w4.heap.size w4 w5 := by rw [← hw5]; (repeat' (first | (with_reducible first | exact Below.refl _ _ | assumption | exact Bw.out (by assumption) | refine bw_alloc ?_ _ | refine bw_step ?_ (by assumption) | refine Below.alloc ?_ ?_ _ | refine Below.drew ?_ | refine below_drewN ?_ _ | refine Below.setCell ?_ ?_ _ | refine below_step ?_ (by assumption) ?_ | exact Nat.le_refl _) | omega | (simp; omega) | (simp; done)))
   have R_e_5 : Row w5 (w.heap.size) [.int .i64 x.op, .int .i64 x.n, .slice x.at' x.ks.length x.cap] := by rw [← hw5]; (repeat' (first | (with_reducible assumption) | (with_reducible refine Row.new' _ _ _ (by first | rfl | (simp; done) | omega)) | (with_reducible first | refine Row.alloc ?_ _ | refine Row.drew ?_ | refine Row.step ?_ (by assumption) | refine Row.drewN ?_ _) | (with_reducible refine Row.set2' ?_ _ _; first | exact ⟨_, _, by assumption⟩ | exact ⟨_, _, Row.alloc (by assumption) _⟩) | (with_reducible refine Row.other ?_ (by first | omega | (simp; omega)) _)))
   have c_e_0_5 := R_e_5.cell 0 rfl
   have c_e_1_5 := R_e_5.cell 1 rfl
   have c_e_2_5 := R_e_5.cell 2 rfl
   have l_e_5 := R_e_5.lt
   have R_v_5 : Row w5 (w.heap.size + 1) [.int .i64 (v0), .int .i64 (v1), .int .i64 (v2), .int .i64 (v3)] := by rw [← hw5]; (repeat' (first | (with_reducible assumption) | (with_reducible refine Row.new' _ _ _ (by first | rfl | (simp; done) | omega)) | (with_reducible first | refine Row.alloc ?_ _ | refine Row.drew ?_ | refine Row.step ?_ (by assumption) | refine Row.drewN ?_ _) | (with_reducible refine Row.set2' ?_ _ _; first | exact ⟨_, _, by assumption⟩ | exact ⟨_, _, Row.alloc (by assumption) _⟩) | (with_reducible refine Row.other ?_ (by first | omega | (simp; omega)) _)))
   have c_v_0_5 := R_v_5.cell 0 rfl
   have c_v_1_5 := R_v_5.cell 1 rfl
   have c_v_2_5 := R_v_5.cell 2 rfl
   have c_v_3_5 := R_v_5.cell 3 rfl
   have l_v_5 := R_v_5.lt
   have R_a_5 : Row w5 (w.heap.size + 1 + 1) [.int .i64 (k), .int .i64 (fr), .int .i64 (un), .int .i64 (ps)] := by rw [← hw5]; (repeat' (first | (with_reducible assumption) | (with_reducible refine Row.new' _ _ _ (by first | rfl | (simp; done) | omega)) | (with_reducible first | refine Row.alloc ?_ _ | refine Row.drew ?_ | refine Row.step ?_ (by assumption) | refine Row.drewN ?_ _) | (with_reducible refine Row.set2' ?_ _ _; first | exact ⟨_, _, by assumption⟩ | exact ⟨_, _, Row.alloc (by assumption) _⟩) | (with_reducible refine Row.other ?_ (by first | omega | (simp; omega)) _)))
   have c_a_0_5 := R_a_5.cell 0 rfl
   have c_a_1_5 := R_a_5.cell 1 rfl
   have c_a_2_5 := R_a_5.cell 2 rfl
   have c_a_3_5 := R_a_5.cell 3 rfl
   have l_a_5 := R_a_5.lt
   have R_r_5 : Row w5 (w4.heap.size) [.int .i64 (N), .int .i64 (D)] := by rw [← hw5]; (repeat' (first | (with_reducible assumption) | (with_reducible refine Row.new' _ _ _ (by first | rfl | (simp; done) | omega)) | (with_reducible first | refine Row.alloc ?_ _ | refine Row.drew ?_ | refine Row.step ?_ (by assumption) | refine Row.drewN ?_ _) | (with_reducible refine Row.set2' ?_ _ _; first | exact ⟨_, _, by assumption⟩ | exact ⟨_, _, Row.alloc (by assumption) _⟩) | (with_reducible refine Row.other ?_ (by first | omega | (simp; omega)) _)))
   have c_r_0_5 := R_r_5.cell 0 rfl
   have c_r_1_5 := R_r_5.cell 1 rfl
   have l_r_5 := R_r_5.lt
   have HB5 := HB4.trans (hb5.mono HB4.size)
   have hs5 := hb5.size
   have hz5 := HB5.size
   clear R_e_4 c_e_0_4 c_e_1_4 c_e_2_4 R_v_4 c_v_0_4 c_v_1_4 c_v_2_4 c_v_3_4 R_a_4 c_a_0_4 c_a_1_4 c_a_2_4 c_a_3_4 hb4 HB4
   go_wp2_with fail
   refine (R_Eval_p x v0 v1 v2 v3 _ (HIN.out.step HB5) N D F HEV.out).mono ?_
   rintro e w6 ⟨rfl, hb6⟩
   have R_e_6 : Row w6 (w.heap.size) [.int .i64 x.op, .int .i64 x.n, .slice x.at' x.ks.length x.cap] := by (repeat' (first | (with_reducible assumption) | (with_reducible refine Row.new' _ _ _ (by first | rfl | (simp; done) | omega)) | (with_reducible first | refine Row.alloc ?_ _ | refine Row.drew ?_ | refine Row.step ?_ (by assumption) | refine Row.drewN ?_ _) | (with_reducible refine Row.set2' ?_ _ _; first | exact ⟨_, _, by assumption⟩ | exact ⟨_, _, Row.alloc (by assumption) _⟩) | (with_reducible refine Row.other ?_ (by first | omega | (simp; omega)) _)))
   have c_e_0_6 := R_e_6.cell 0 rfl
   have c_e_1_6 := R_e_6.cell 1 rfl
   have c_e_2_6 := R_e_6.cell 2 rfl
   have l_e_6 := R_e_6.lt
   have R_v_6 : Row w6 (w.heap.size + 1) [.int .i64 (v0), .int .i64 (v1), .int .i64 (v2), .int .i64 (v3)] := by (repeat' (first | (with_reducible assumption) | (with_reducible refine Row.new' _ _ _ (by first | rfl | (simp; done) | omega)) | (with_reducible first | refine Row.alloc ?_ _ | refine Row.drew ?_ | refine Row.step ?_ (by assumption) | refine Row.drewN ?_ _) | (with_reducible refine Row.set2' ?_ _ _; first | exact ⟨_, _, by assumption⟩ | exact ⟨_, _, Row.alloc (by assumption) _⟩) | (with_reducible refine Row.other ?_ (by first | omega | (simp; omega)) _)))
   have c_v_0_6 := R_v_6.cell 0 rfl
   have c_v_1_6 := R_v_6.cell 1 rfl
   have c_v_2_6 := R_v_6.cell 2 rfl
   have c_v_3_6 := R_v_6.cell 3 rfl
   have l_v_6 := R_v_6.lt
   have R_a_6 : Row w6 (w.heap.size + 1 + 1) [.int .i64 (k), .int .i64 (fr), .int .i64 (un), .int .i64 (ps)] := by (repeat' (first | (with_reducible assumption) | (with_reducible refine Row.new' _ _ _ (by first | rfl | (simp; done) | omega)) | (with_reducible first | refine Row.alloc ?_ _ | refine Row.drew ?_ | refine Row.step ?_ (by assumption) | refine Row.drewN ?_ _) | (with_reducible refine Row.set2' ?_ _ _; first | exact ⟨_, _, by assumption⟩ | exact ⟨_, _, Row.alloc (by assumption) _⟩) | (with_reducible refine Row.other ?_ (by first | omega | (simp; omega)) _)))
   have c_a_0_6 := R_a_6.cell 0 rfl
   have c_a_1_6 := R_a_6.cell 1 rfl
   have c_a_2_6 := R_a_6.cell 2 rfl
   have c_a_3_6 := R_a_6.cell 3 rfl
   have l_a_6 := R_a_6.lt
   have R_r_6 : Row w6 (w4.heap.size) [.int .i64 (N), .int .i64 (D)] := by (repeat' (first | (with_reducible assumption) | (with_reducible refine Row.new' _ _ _ (by first | rfl | (simp; done) | omega)) | (with_reducible first | refine Row.alloc ?_ _ | refine Row.drew ?_ | refine Row.step ?_ (by assumption) | refine Row.drewN ?_ _) | (with_reducible refine Row.set2' ?_ _ _; first | exact ⟨_, _, by assumption⟩ | exact ⟨_, _, Row.alloc (by assumption) _⟩) | (with_reducible refine Row.other ?_ (by first | omega | (simp; omega)) _)))
   have c_r_0_6 := R_r_6.cell 0 rfl
   have c_r_1_6 := R_r_6.cell 1 rfl
   have l_r_6 := R_r_6.lt
   have HB6 : Below w.heap.size w w6 := by (repeat' (first | (with_reducible first | exact Below.refl _ _ | assumption | exact Bw.out (by assumption) | refine bw_alloc ?_ _ | refine bw_step ?_ (by assumption) | refine Below.alloc ?_ ?_ _ | refine Below.drew ?_ | refine below_drewN ?_ _ | refine Below.setCell ?_ ?_ _ | refine below_step ?_ (by assumption) ?_ | exact Nat.le_refl _) | omega | (simp; omega) | (simp; done)))
   clear R_e_5 c_e_0_5 c_e_1_5 c_e_2_5 R_v_5 c_v_0_5 c_v_1_5 c_v_2_5 c_v_3_5 R_a_5 c_a_0_5 c_a_1_5 c_a_2_5 c_a_3_5 R_r_5 c_r_0_5 c_r_1_5 hb5 hw5
   go_upto_region 6 with fail
   obtain ⟨w7, hw7⟩ : ∃ x, World.alloc w6 (.cells #[.int .i64 N, .int .i64 D] 33) = x := ⟨_, rfl⟩
   rw [hw7]
   have hb7 : Below w6.heap.size w6 w7 := by rw [← hw7]; (repeat' (first | (with_reducible first | exact Below.refl _ _ | assumption | exact Bw.out (by assumption) | refine bw_alloc ?_ _ | refine bw_step ?_ (by assumption) | refine Below.alloc ?_ ?_ _ | refine Below.drew ?_ | refine below_drewN ?_ _ | refine Below.setCell ?_ ?_ _ | refine below_step ?_ (by assumption) ?_ | exact Nat.le_refl _) | omega | (simp; omega) | (simp; done)))
   have R_e_7 : Row w7 (w.heap.size) [.int .i64 x.op, .int .i64 x.n, .slice x.at' x.ks.length x.cap] := by rw [← hw7]; (repeat' (first | (with_reducible assumption) | (with_reducible refine Row.new' _ _ _ (by first | rfl | (simp; done) | omega)) | (with_reducible first | refine Row.alloc ?_ _ | refine Row.drew ?_ | refine Row.step ?_ (by assumption) | refine Row.drewN ?_ _) | (with_reducible refine Row.set2' ?_ _ _; first | exact ⟨_, _, by assumption⟩ | exact ⟨_, _, Row.alloc (by assumption) _⟩) | (with_reducible refine Row.other ?_ (by first | omega | (simp; omega)) _)))
   have c_e_0_7 := R_e_7.cell 0 rfl
   have c_e_1_7 := R_e_7.cell 1 rfl
   have c_e_2_7 := R_e_7.cell 2 rfl
   have l_e_7 := R_e_7.lt
   have R_v_7 : Row w7 (w.heap.size + 1) [.int .i64 (v0), .int .i64 (v1), .int .i64 (v2), .int .i64 (v3)] := by rw [← hw7]; (repeat' (first | (with_reducible assumption) | (with_reducible refine Row.new' _ _ _ (by first | rfl | (simp; done) | omega)) | (with_reducible first | refine Row.alloc ?_ _ | refine Row.drew ?_ | refine Row.step ?_ (by assumption) | refine Row.drewN ?_ _) | (with_reducible refine Row.set2' ?_ _ _; first | exact ⟨_, _, by assumption⟩ | exact ⟨_, _, Row.alloc (by assumption) _⟩) | (with_reducible refine Row.other ?_ (by first | omega | (simp; omega)) _)))
   have c_v_0_7 := R_v_7.cell 0 rfl
   have c_v_1_7 := R_v_7.cell 1 rfl
   have c_v_2_7 := R_v_7.cell 2 rfl
   have c_v_3_7 := R_v_7.cell 3 rfl
   have l_v_7 := R_v_7.lt
   have R_a_7 : Row w7 (w.heap.size + 1 + 1) [.int .i64 (k), .int .i64 (fr), .int .i64 (un), .int .i64 (ps)] := by rw [← hw7]; (repeat' (first | (with_reducible assumption) | (with_reducible refine Row.new' _ _ _ (by first | rfl | (simp; done) | omega)) | (with_reducible first | refine Row.alloc ?_ _ | refine Row.drew ?_ | refine Row.step ?_ (by assumption) | refine Row.drewN ?_ _) | (with_reducible refine Row.set2' ?_ _ _; first | exact ⟨_, _, by assumption⟩ | exact ⟨_, _, Row.alloc (by assumption) _⟩) | (with_reducible refine Row.other ?_ (by first | omega | (simp; omega)) _)))
   have c_a_0_7 := R_a_7.cell 0 rfl
   have c_a_1_7 := R_a_7.cell 1 rfl
   have c_a_2_7 := R_a_7.cell 2 rfl
   have c_a_3_7 := R_a_7.cell 3 rfl
   have l_a_7 := R_a_7.lt
   have R_r_7 : Row w7 (w4.heap.size) [.int .i64 (N), .int .i64 (D)] := by rw [← hw7]; (repeat' (first | (with_reducible assumption) | (with_reducible refine Row.new' _ _ _ (by first | rfl | (simp; done) | omega)) | (with_reducible first | refine Row.alloc ?_ _ | refine Row.drew ?_ | refine Row.step ?_ (by assumption) | refine Row.drewN ?_ _) | (with_reducible refine Row.set2' ?_ _ _; first | exact ⟨_, _, by assumption⟩ | exact ⟨_, _, Row.alloc (by assumption) _⟩) | (with_reducible refine Row.other ?_ (by first | omega | (simp; omega)) _)))
   have c_r_0_7 := R_r_7.cell 0 rfl
   have c_r_1_7 := R_r_7.cell 1 rfl
   have l_r_7 := R_r_7.lt
   have R_s_7 : Row w7 (w6.heap.size) [.int .i64 (N), .int .i64 (D)] := by rw [← hw7]; (repeat' (first | (with_reducible assumption) | (with_reducible refine Row.new' _ _ _ (by first | rfl | (simp; done) | omega)) | (with_reducible first | refine Row.alloc ?_ _ | refine Row.drew ?_ | refine Row.step ?_ (by assumption) | refine Row.drewN ?_ _) | (with_reducible refine Row.set2' ?_ _ _; first | exact ⟨_, _, by assumption⟩ | exact ⟨_, _, Row.alloc (by assumption) _⟩) | (with_reducible refine Row.other ?_ (by first | omega | (simp; omega)) _)))
   have c_s_0_7 := R_s_7.cell 0 rfl
   have c_s_1_7 := R_s_7.cell 1 rfl
   have l_s_7 := R_s_7.lt
   have HB7 := HB6.trans (hb7.mono HB6.size)
   have hs7 := hb7.size
   have hz7 := HB7.size
   clear R_e_6 c_e_0_6 c_e_1_6 c_e_2_6 R_v_6 c_v_0_6 c_v_1_6 c_v_2_6 c_v_3_6 R_a_6 c_a_0_6 c_a_1_6 c_a_2_6 c_a_3_6 R_r_6 c_r_0_6 c_r_1_6 hb6 HB6
   have HRA := Lib.hid R_a_7
   have HBI := Lib.hid HB7
   have hsz7 := HB7.size
   go_wp2_with fail
   clear R_e_7 c_e_0_7 c_e_1_7 c_e_2_7 l_e_7 R_v_7 c_v_0_7 c_v_1_7 c_v_2_7 c_v_3_7 l_v_7 R_a_7 c_a_0_7 c_a_1_7 c_a_2_7 c_a_3_7 l_a_7 R_r_7 c_r_0_7 c_r_1_7 l_r_7 R_s_7 c_s_0_7 c_s_1_7 l_s_7 hb7 HB7
   go_loopw [11, 16] (fun v11 v16 wr => ∃ q : Nat, q ≤ n ∧ v11 = .bool true ∧ v16 = .int .i64 q ∧ Hid (Below w7.heap.size w7 wr)) (fun _ v16 _ => n - (intOf v16).toNat)
   case atStart => exact ⟨0, Nat.zero_le _, rfl, rfl, Below.refl _ _⟩
   case round =>
    obtain ⟨q, hq, rfl, rfl, hC⟩ := hrel
    have hsC := hC.out.size
    have HBw : Hid (Below w.heap.size w wr) := HBI.out.trans (hC.out.mono hsz7)
    by_cases hlt : q < n
    ·
     by_cases hlt3 : q < 3
     ·
      obtain ⟨r, b, off, hx, rfl, hlb, hrin, hcl⟩ := (HL.out.step HBw.out).get hlt
      have HSX : Hid (∀ W, Below wr.heap.size wr W → ldV W (.pointer (some ⟨b, off + q * 16, none⟩)) = some (.agg #[.int .i64 r.id, .int .i64 r.lv, .int .i64 r.kd, .int .i64 r.fr, .int .i64 r.un, .int .i64 r.ls, .int .i64 r.ms, .int .i64 r.ar, .int .i64 r.kn, .int .i64 r.kk, .int .i64 r.wh.op, .int .i64 r.wh.n, .slice r.wh.at' r.wh.ks.length r.wh.cap, .int .i64 r.pr.op, .int .i64 r.pr.n, .slice r.pr.at' r.pr.ks.length r.pr.cap]) ∧ W.cell? ⟨w.heap.size + 1 + 1, 0, none⟩ = some (.int .i64 k) ∧ W.cell? ⟨w.heap.size + 1 + 1, 1, none⟩ = some (.int .i64 fr) ∧ W.cell? ⟨w.heap.size + 1 + 1, 2, none⟩ = some (.int .i64 un) ∧ W.cell? ⟨w.heap.size + 1 + 1, 3, none⟩ = some (.int .i64 ps)) := fun W h => by
       have RA := (HRA.out.step hC.out).step h
       exact ⟨ldV_at (fun j v hj => (h.cell (p := ⟨b, off + q * 16 + j, none⟩) (World.block_lt_of_cell? wr _ (hcl.out j v hj))).trans (hcl.out j v hj)) rfl, RA.cell 0 rfl, RA.cell 1 rfl, RA.cell 2 rfl, RA.cell 3 rfl⟩
      obtain ⟨BX, EX, hBX⟩ : ∃ B E, applV r ⟨k, fr, un, ps⟩ nt = (B, E) := ⟨_, _, rfl⟩
      have HAP := Lib.hid hBX
      have i1 : (0 : Int) ≤ (q : Int) := by omega
      have i2 : (q : Int) < (n : Int) := by omega
      have i3 : (q : Int) < 3 := by omega
      clear hcl hBX
      go_upto_region 10 with fail
      refine AnyJ.beginP (fun W => ldV W (.pointer (some ⟨b, off + q * 16, none⟩)) = some (.agg #[.int .i64 r.id, .int .i64 r.lv, .int .i64 r.kd, .int .i64 r.fr, .int .i64 r.un, .int .i64 r.ls, .int .i64 r.ms, .int .i64 r.ar, .int .i64 r.kn, .int .i64 r.kk, .int .i64 r.wh.op, .int .i64 r.wh.n, .slice r.wh.at' r.wh.ks.length r.wh.cap, .int .i64 r.pr.op, .int .i64 r.pr.n, .slice r.pr.at' r.pr.ks.length r.pr.cap]) ∧ W.cell? ⟨w.heap.size + 1 + 1, 0, none⟩ = some (.int .i64 k) ∧ W.cell? ⟨w.heap.size + 1 + 1, 1, none⟩ = some (.int .i64 fr) ∧ W.cell? ⟨w.heap.size + 1 + 1, 2, none⟩ = some (.int .i64 un) ∧ W.cell? ⟨w.heap.size + 1 + 1, 3, none⟩ = some (.int .i64 ps)) (fun _ => true) (by kernel_rfl) (HSX.out _ (Below.refl _ _).drew) (fun hS => ?_)
      refine AnyJ.takeD (i := 0) (d := some 73) (v := ?_) rfl (by kernel_rfl) (by kernel_rfl) (by kernel_rfl) (by kernel_rfl) (by kernel_rfl) (fun _ _ _ h => h) (Or.inl ⟨by kernel_rfl, ?_⟩) hS ?_
      rotate_left
      ·
       intro w' hS
       obtain ⟨s0, s1, s2, s3, s4⟩ := hS
       go_simp
       try with_reducible rfl
      refine AnyJ.takeD (i := 1) (d := some 74) (v := ?_) rfl (by kernel_rfl) (by kernel_rfl) (by kernel_rfl) (by kernel_rfl) (by kernel_rfl) (fun _ _ _ h => h) (Or.inl ⟨by kernel_rfl, ?_⟩) hS ?_
      rotate_left
      ·
       intro w' hS
       obtain ⟨s0, s1, s2, s3, s4⟩ := hS
       go_simp
       try with_reducible rfl
      refine AnyJ.takeD (i := 2) (d := some 75) (v := ?_) rfl (by kernel_rfl) (by kernel_rfl) (by kernel_rfl) (by kernel_rfl) (by kernel_rfl) (fun _ _ _ h => h) (Or.inl ⟨by kernel_rfl, ?_⟩) hS ?_
      rotate_left
      ·
       intro w' hS
       obtain ⟨s0, s1, s2, s3, s4⟩ := hS
       go_simp
       try with_reducible rfl
      refine AnyJ.takeD (i := 3) (d := some 76) (v := ?_) rfl (by kernel_rfl) (by kernel_rfl) (by kernel_rfl) (by kernel_rfl) (by kernel_rfl) (fun _ _ _ h => h) (Or.inl ⟨by kernel_rfl, ?_⟩) hS ?_
      rotate_left
      ·
       intro w' hS
       obtain ⟨s0, s1, s2, s3, s4⟩ := hS
       go_simp
       try with_reducible rfl
      refine AnyJ.takeD (i := 4) (d := some 77) (v := ?_) rfl (by kernel_rfl) (by kernel_rfl) (by kernel_rfl) (by kernel_rfl) (by kernel_rfl) (fun _ _ _ h => h) (Or.inl ⟨by kernel_rfl, ?_⟩) hS ?_
      rotate_left
      ·
       intro w' hS
       obtain ⟨s0, s1, s2, s3, s4⟩ := hS
       go_simp
       try with_reducible rfl
      refine AnyJ.takeD (i := 5) (d := some 78) (v := ?_) rfl (by kernel_rfl) (by kernel_rfl) (by kernel_rfl) (by kernel_rfl) (by kernel_rfl) (fun _ _ _ h => h) (Or.inl ⟨by kernel_rfl, ?_⟩) hS ?_
      rotate_left
      ·
       intro w' hS
       obtain ⟨s0, s1, s2, s3, s4⟩ := hS
       go_simp
       try with_reducible rfl
      clear hS
      refine AnyJ.one (i := 6) (by kernel_rfl) rfl (fun Kz hKz => ?_)
      go_simp
      refine (Applies_any r k fr un ps nt wr.drew (hrin.out.step (Below.refl _ _).drew) BX EX HAP.out).mono ?_
      rintro e w8 ⟨rfl, hbw8⟩
      have hrw8 : Below wr.heap.size wr w8 := ((Below.refl _ wr).drew).trans hbw8
      have hS := HSX.out _ hrw8
      refine hKz _ _ (fun _ => hS) ?_
      clear hKz Kz hbw8
      refine AnyJ.takeD (i := 7) (d := some 72) (v := ?_) rfl (by kernel_rfl) (by kernel_rfl) (by kernel_rfl) (by kernel_rfl) (by kernel_rfl) (fun _ _ _ h => h) (Or.inl ⟨by kernel_rfl, ?_⟩) hS ?_
      rotate_left
      ·
       intro w' hS
       obtain ⟨s0, s1, s2, s3, s4⟩ := hS
       go_simp
       try with_reducible rfl
      refine AnyJ.takeD (i := 8) (d := some 80) (v := ?_) rfl (by kernel_rfl) (by kernel_rfl) (by kernel_rfl) (by kernel_rfl) (by kernel_rfl) (fun _ _ _ h => h) (Or.inl ⟨by kernel_rfl, ?_⟩) hS ?_
      rotate_left
      ·
       intro w' hS
       obtain ⟨s0, s1, s2, s3, s4⟩ := hS
       go_simp
       try with_reducible rfl
      refine AnyJ.takeD (i := 9) (d := some 81) (v := ?_) rfl (by kernel_rfl) (by kernel_rfl) (by kernel_rfl) (by kernel_rfl) (by kernel_rfl) (fun _ _ _ h => h) (Or.inl ⟨by kernel_rfl, ?_⟩) hS ?_
      rotate_left
      ·
       intro w' hS
       obtain ⟨s0, s1, s2, s3, s4⟩ := hS
       go_simp
       try with_reducible rfl
      refine AnyJ.takeD (i := 10) (d := some 17) (v := ?_) rfl (by kernel_rfl) (by kernel_rfl) (by kernel_rfl) (by kernel_rfl) (by kernel_rfl) (fun _ _ _ h => h) (Or.inl ⟨by kernel_rfl, ?_⟩) hS ?_
      rotate_left
      ·
       intro w' hS
       obtain ⟨s0, s1, s2, s3, s4⟩ := hS
       go_simp
       try with_reducible rfl
      refine AnyJ.takeD (i := 11) (d := some 18) (v := ?_) rfl (by kernel_rfl) (by kernel_rfl) (by kernel_rfl) (by kernel_rfl) (by kernel_rfl) (fun _ _ _ h => h) (Or.inl ⟨by kernel_rfl, ?_⟩) hS ?_
      rotate_left
      ·
       intro w' hS
       obtain ⟨s0, s1, s2, s3, s4⟩ := hS
       go_simp
       try with_reducible rfl
      refine AnyJ.done (by kernel_rfl) ?_ _
      try simp only [Act.put, List.setIfInBounds_toArray, List.set_cons_zero, List.set_cons_succ]
      clear hS
      have HR8 := Lib.hid hrw8
      have HSY : Hid (∀ W, Below w8.heap.size w8 W → ldV W (.pointer (some ⟨b, off + q * 16, none⟩)) = some (.agg #[.int .i64 r.id, .int .i64 r.lv, .int .i64 r.kd, .int .i64 r.fr, .int .i64 r.un, .int .i64 r.ls, .int .i64 r.ms, .int .i64 r.ar, .int .i64 r.kn, .int .i64 r.kk, .int .i64 r.wh.op, .int .i64 r.wh.n, .slice r.wh.at' r.wh.ks.length r.wh.cap, .int .i64 r.pr.op, .int .i64 r.pr.n, .slice r.pr.at' r.pr.ks.length r.pr.cap]) ∧ W.cell? ⟨w.heap.size + 1 + 1, 0, none⟩ = some (.int .i64 k) ∧ W.cell? ⟨w.heap.size + 1 + 1, 1, none⟩ = some (.int .i64 fr) ∧ W.cell? ⟨w.heap.size + 1 + 1, 2, none⟩ = some (.int .i64 un) ∧ W.cell? ⟨w.heap.size + 1 + 1, 3, none⟩ = some (.int .i64 ps)) := fun W h => HSX.out W (HR8.out.trans (h.mono HR8.out.size))
      have HRI : Hid (r.In w8) := hrin.out.step HR8.out
      have HB8 : Hid (Below w7.heap.size w7 w8) := hC.out.trans (HR8.out.mono hsC)
      clear hrw8
      go_upto_region 11 with fail
      refine AnyJ.beginP (fun W => ldV W (.pointer (some ⟨b, off + q * 16, none⟩)) = some (.agg #[.int .i64 r.id, .int .i64 r.lv, .int .i64 r.kd, .int .i64 r.fr, .int .i64 r.un, .int .i64 r.ls, .int .i64 r.ms, .int .i64 r.ar, .int .i64 r.kn, .int .i64 r.kk, .int .i64 r.wh.op, .int .i64 r.wh.n, .slice r.wh.at' r.wh.ks.length r.wh.cap, .int .i64 r.pr.op, .int .i64 r.pr.n, .slice r.pr.at' r.pr.ks.length r.pr.cap]) ∧ W.cell? ⟨w.heap.size + 1 + 1, 0, none⟩ = some (.int .i64 k) ∧ W.cell? ⟨w.heap.size + 1 + 1, 1, none⟩ = some (.int .i64 fr) ∧ W.cell? ⟨w.heap.size + 1 + 1, 2, none⟩ = some (.int .i64 un) ∧ W.cell? ⟨w.heap.size + 1 + 1, 3, none⟩ = some (.int .i64 ps)) (fun _ => true) (by kernel_rfl) (HSY.out _ (Below.refl _ _).drew) (fun hS => ?_)
      refine AnyJ.takeD (i := 0) (d := some 83) (v := ?_) rfl (by kernel_rfl) (by kernel_rfl) (by kernel_rfl) (by kernel_rfl) (by kernel_rfl) (fun _ _ _ h => h) (Or.inl ⟨by kernel_rfl, ?_⟩) hS ?_
      rotate_left
      ·
       intro w' hS
       obtain ⟨s0, s1, s2, s3, s4⟩ := hS
       go_simp
       try with_reducible rfl
      refine AnyJ.takeD (i := 1) (d := some 84) (v := ?_) rfl (by kernel_rfl) (by kernel_rfl) (by kernel_rfl) (by kernel_rfl) (by kernel_rfl) (fun _ _ _ h => h) (Or.inl ⟨by kernel_rfl, ?_⟩) hS ?_
      rotate_left
      ·
       intro w' hS
       obtain ⟨s0, s1, s2, s3, s4⟩ := hS
       go_simp
       try with_reducible rfl
      refine AnyJ.takeD (i := 2) (d := some 85) (v := ?_) rfl (by kernel_rfl) (by kernel_rfl) (by kernel_rfl) (by kernel_rfl) (by kernel_rfl) (fun _ _ _ h => h) (Or.inl ⟨by kernel_rfl, ?_⟩) hS ?_
      rotate_left
      ·
       intro w' hS
       obtain ⟨s0, s1, s2, s3, s4⟩ := hS
       go_simp
       try with_reducible rfl
      refine AnyJ.takeD (i := 3) (d := some 86) (v := ?_) rfl (by kernel_rfl) (by kernel_rfl) (by kernel_rfl) (by kernel_rfl) (by kernel_rfl) (fun _ _ _ h => h) (Or.inl ⟨by kernel_rfl, ?_⟩) hS ?_
      rotate_left
      ·
       intro w' hS
       obtain ⟨s0, s1, s2, s3, s4⟩ := hS
       go_simp
       try with_reducible rfl
      refine AnyJ.takeD (i := 4) (d := some 87) (v := ?_) rfl (by kernel_rfl) (by kernel_rfl) (by kernel_rfl) (by kernel_rfl) (by kernel_rfl) (fun _ _ _ h => h) (Or.inl ⟨by kernel_rfl, ?_⟩) hS ?_
      rotate_left
      ·
       intro w' hS
       obtain ⟨s0, s1, s2, s3, s4⟩ := hS
       go_simp
       try with_reducible rfl
      refine AnyJ.takeD (i := 5) (d := some 88) (v := ?_) rfl (by kernel_rfl) (by kernel_rfl) (by kernel_rfl) (by kernel_rfl) (by kernel_rfl) (fun _ _ _ h => h) (Or.inl ⟨by kernel_rfl, ?_⟩) hS ?_
      rotate_left
      ·
       intro w' hS
       obtain ⟨s0, s1, s2, s3, s4⟩ := hS
       go_simp
       try with_reducible rfl
      clear hS
      refine AnyJ.one (i := 6) (by kernel_rfl) rfl (fun Kz hKz => ?_)
      go_simp
      refine (R_Applies_p r k fr un ps nt w8.drew (HRI.out.step (Below.refl _ _).drew) BX EX HAP.out).mono ?_
      rintro e w9 ⟨rfl, hbw9⟩
      have hrw9 : Below w8.heap.size w8 w9 := ((Below.refl _ w8).drew).trans hbw9
      have hS := HSY.out _ hrw9
      refine hKz _ _ (fun _ => hS) ?_
      clear hKz Kz hbw9
      refine AnyJ.takeD (i := 7) (d := some 82) (v := ?_) rfl (by kernel_rfl) (by kernel_rfl) (by kernel_rfl) (by kernel_rfl) (by kernel_rfl) (fun _ _ _ h => h) (Or.inl ⟨by kernel_rfl, ?_⟩) hS ?_
      rotate_left
      ·
       intro w' hS
       obtain ⟨s0, s1, s2, s3, s4⟩ := hS
       go_simp
       try with_reducible rfl
      refine AnyJ.takeD (i := 8) (d := some 90) (v := ?_) rfl (by kernel_rfl) (by kernel_rfl) (by kernel_rfl) (by kernel_rfl) (by kernel_rfl) (fun _ _ _ h => h) (Or.inl ⟨by kernel_rfl, ?_⟩) hS ?_
      rotate_left
      ·
       intro w' hS
       obtain ⟨s0, s1, s2, s3, s4⟩ := hS
       go_simp
       try with_reducible rfl
      refine AnyJ.takeD (i := 9) (d := some 91) (v := ?_) rfl (by kernel_rfl) (by kernel_rfl) (by kernel_rfl) (by kernel_rfl) (by kernel_rfl) (fun _ _ _ h => h) (Or.inl ⟨by kernel_rfl, ?_⟩) hS ?_
      rotate_left
      ·
       intro w' hS
       obtain ⟨s0, s1, s2, s3, s4⟩ := hS
       go_simp
       try with_reducible rfl
      refine AnyJ.takeD (i := 10) (d := some 19) (v := ?_) rfl (by kernel_rfl) (by kernel_rfl) (by kernel_rfl) (by kernel_rfl) (by kernel_rfl) (fun _ _ _ h => h) (Or.inl ⟨by kernel_rfl, ?_⟩) hS ?_
      rotate_left
      ·
       intro w' hS
       obtain ⟨s0, s1, s2, s3, s4⟩ := hS
       go_simp
       try with_reducible rfl
      refine AnyJ.takeD (i := 11) (d := some 20) (v := ?_) rfl (by kernel_rfl) (by kernel_rfl) (by kernel_rfl) (by kernel_rfl) (by kernel_rfl) (fun _ _ _ h => h) (Or.inl ⟨by kernel_rfl, ?_⟩) hS ?_
      rotate_left
      ·
       intro w' hS
       obtain ⟨s0, s1, s2, s3, s4⟩ := hS
       go_simp
       try with_reducible rfl
      refine AnyJ.done (by kernel_rfl) ?_ _
      try simp only [Act.put, List.setIfInBounds_toArray, List.set_cons_zero, List.set_cons_succ]
      clear hS
      have HB9 : Hid (Below w7.heap.size w7 w9) := HB8.out.trans (hrw9.mono HB8.out.size)
      clear hrw9
      go_wp2_with fail
      go_roundw
      case rel => exact ⟨q + 1, by omega, rfl, by go_num, HB9.out⟩
      case measure => simp [intOf]; omega
     ·
      have i2 : (q : Int) < (n : Int) := by omega
      have i3 : ¬ ((q : Int) < 3) := by omega
      have RAa := HRA.out
      have RAb := RAa.step hC.out
      have a0 := RAb.cell 0 rfl
      have a1 := RAb.cell 1 rfl
      have a2 := RAb.cell 2 rfl
      have a3 := RAb.cell 3 rfl
      have al := RAb.lt
      go_wp2_with fail
      refine (Night_any a n cap l k fr un ps nt wr (HL.out.step HBw.out) hm N2 I2 E2 HNI.out).mono ?_
      rintro e w8 ⟨rfl, hb8⟩
      have HB8 : Hid (Below w.heap.size w w8) := HBw.out.trans (hb8.mono HBw.out.size)
      clear a0 a1 a2 a3 al
      have RAc := RAb.step hb8
      have a0 := RAc.cell 0 rfl
      have a1 := RAc.cell 1 rfl
      have a2 := RAc.cell 2 rfl
      have a3 := RAc.cell 3 rfl
      have al := RAc.lt
      clear hb8
      go_wp2_with fail
      refine (R_Night_p a n cap l k fr un ps nt w8 (HL.out.step HB8.out) hm N2 I2 E2 HNI.out).mono ?_
      rintro e w9 ⟨rfl, hb9⟩
      have HB9 : Hid (Below w.heap.size w w9) := HB8.out.trans (hb9.mono HB8.out.size)
      clear a0 a1 a2 a3 al
      have RAd := RAc.step hb9
      have a0 := RAd.cell 0 rfl
      have a1 := RAd.cell 1 rfl
      have a2 := RAd.cell 2 rfl
      have a3 := RAd.cell 3 rfl
      have al := RAd.lt
      clear hb9
      go_wp2_with fail
      refine (Price_any a n cap l k fr un ps w9 (HL.out.step HB9.out) hm P K3 E3 HPR.out).mono ?_
      rintro e w10 ⟨pv, rfl, hpv, hb10⟩
      have HB10 : Hid (Below w.heap.size w w10) := HB9.out.trans (hb10.mono HB9.out.size)
      have HPV := Lib.hid hpv
      clear a0 a1 a2 a3 al
      have RAe := RAd.step hb10
      have a0 := RAe.cell 0 rfl
      have a1 := RAe.cell 1 rfl
      have a2 := RAe.cell 2 rfl
      have a3 := RAe.cell 3 rfl
      have al := RAe.lt
      clear hb10 hpv
      go_wp2_with fail
      refine (R_Price_p a n cap l k fr un ps w10 (HL.out.step HB10.out) hm P K3 E3 HPR.out).mono ?_
      rintro e w11 ⟨qv, rfl, hqv, hb11⟩
      have HB11 : Hid (Below w.heap.size w w11) := HB10.out.trans (hb11.mono HB10.out.size)
      have HPV2 := Lib.hid (HPV.out.step hb11)
      have HQV := Lib.hid hqv
      clear a0 a1 a2 a3 al hb11 hqv
      go_wp2_with fail
      refine (R_same_c pv qv P P w11 HPV2.out HQV.out true (by simp)).mono ?_
      rintro e w12 ⟨rfl, hb12⟩
      have HB12 : Hid (Below w.heap.size w w12) := HB11.out.trans (hb12.mono HB11.out.size)
      clear hb12
      go_wp2_with fail
      go_ret
      exact ⟨rfl, HB12.out⟩
    ·
     have i2 : ¬ ((q : Int) < (n : Int)) := by omega
     have RAa := HRA.out
     have RAb := RAa.step hC.out
     have a0 := RAb.cell 0 rfl
     have a1 := RAb.cell 1 rfl
     have a2 := RAb.cell 2 rfl
     have a3 := RAb.cell 3 rfl
     have al := RAb.lt
     go_wp2_with fail
     refine (Night_any a n cap l k fr un ps nt wr (HL.out.step HBw.out) hm N2 I2 E2 HNI.out).mono ?_
     rintro e w8 ⟨rfl, hb8⟩
     have HB8 : Hid (Below w.heap.size w w8) := HBw.out.trans (hb8.mono HBw.out.size)
     clear a0 a1 a2 a3 al
     have RAc := RAb.step hb8
     have a0 := RAc.cell 0 rfl
     have a1 := RAc.cell 1 rfl
     have a2 := RAc.cell 2 rfl
     have a3 := RAc.cell 3 rfl
     have al := RAc.lt
     clear hb8
     go_wp2_with fail
     refine (R_Night_p a n cap l k fr un ps nt w8 (HL.out.step HB8.out) hm N2 I2 E2 HNI.out).mono ?_
     rintro e w9 ⟨rfl, hb9⟩
     have HB9 : Hid (Below w.heap.size w w9) := HB8.out.trans (hb9.mono HB8.out.size)
     clear a0 a1 a2 a3 al
     have RAd := RAc.step hb9
     have a0 := RAd.cell 0 rfl
     have a1 := RAd.cell 1 rfl
     have a2 := RAd.cell 2 rfl
     have a3 := RAd.cell 3 rfl
     have al := RAd.lt
     clear hb9
     go_wp2_with fail
     refine (Price_any a n cap l k fr un ps w9 (HL.out.step HB9.out) hm P K3 E3 HPR.out).mono ?_
     rintro e w10 ⟨pv, rfl, hpv, hb10⟩
     have HB10 : Hid (Below w.heap.size w w10) := HB9.out.trans (hb10.mono HB9.out.size)
     have HPV := Lib.hid hpv
     clear a0 a1 a2 a3 al
     have RAe := RAd.step hb10
     have a0 := RAe.cell 0 rfl
     have a1 := RAe.cell 1 rfl
     have a2 := RAe.cell 2 rfl
     have a3 := RAe.cell 3 rfl
     have al := RAe.lt
     clear hb10 hpv
     go_wp2_with fail
     refine (R_Price_p a n cap l k fr un ps w10 (HL.out.step HB10.out) hm P K3 E3 HPR.out).mono ?_
     rintro e w11 ⟨qv, rfl, hqv, hb11⟩
     have HB11 : Hid (Below w.heap.size w w11) := HB10.out.trans (hb11.mono HB10.out.size)
     have HPV2 := Lib.hid (HPV.out.step hb11)
     have HQV := Lib.hid hqv
     clear a0 a1 a2 a3 al hb11 hqv
     go_wp2_with fail
     refine (R_same_c pv qv P P w11 HPV2.out HQV.out true (by simp)).mono ?_
     rintro e w12 ⟨rfl, hb12⟩
     have HB12 : Hid (Below w.heap.size w w12) := HB11.out.trans (hb12.mono HB11.out.size)
     clear hb12
     go_wp2_with fail
     go_ret
     exact ⟨rfl, HB12.out⟩
set_option maxRecDepth 100000 in
theorem rateMatchesReference_lifted (os : Os) (started : os.Started) (H : Type) (enc : TypeId × Value → H) :
  ReturnsInHanded {} Tryz.checked os 3 .any (Rows.rateMatchesReferenceSpec.pre6 enc Tryz.prog Tryz.f3 Rows.rateMatchesReferenceRow.domain false) (Rows.rateMatchesReferenceSpec.post enc Tryz.prog Tryz.f3 false true false false) := by
 refine returnsInHanded_of_change (C := Tryz.checked) own started (by kernel_rfl) Tryz.func3
  (ChangeSpec.witness6 (enc := enc) (C := Tryz.checked) false ⟨#[], #[.agg #[.int .i64 0, .int .i64 0, .slice none 0 0], .agg #[.int .i64 0, .int .i64 0, .int .i64 0, .int .i64 0], .slice none 0 0, .agg #[.int .i64 0, .int .i64 0, .int .i64 0, .int .i64 0], .int .i64 0], []⟩ 8 (by kernel_rfl) (by kernel_rfl) (by kernel_rfl) (by kernel_rfl)) ?_
 intro W base args ds gs before hval0 hW _ _
 have hval : ∀ (j : Nat) t v, Tryz.f3.params[j]? = some t → args[j]? = some v → Value.okWide Tryz.prog W .any base t v := hval0
 have hW' := hW
 obtain ⟨p, q, hA0, hV, rfl, hfz, hnd⟩ := hW
 obtain ⟨rfl, rfl⟩ := trodVars_none hV
 have hA : DataW.TrodAll enc Tryz.prog W 0 (fun _ => true) true Tryz.f3.params.toList args.toList ds p := hA0
 rw [Tryz.params3] at hA hval
 obtain ⟨v0, vs0, d0, ds0, p0, q0, hargs, rfl, rfl, h0, r0⟩ := trodAll_cons hA
 obtain ⟨v1, vs1, d1, ds1, p1, q1, rfl, rfl, rfl, h1, r1⟩ := trodAll_cons r0
 obtain ⟨v2, vs2, d2, ds2, p2, q2, rfl, rfl, rfl, h2, r2⟩ := trodAll_cons r1
 obtain ⟨v3, vs3, d3, ds3, p3, q3, rfl, rfl, rfl, h3, r3⟩ := trodAll_cons r2
 obtain ⟨v4, vs4, d4, ds4, p4, q4, rfl, rfl, rfl, h4, r4⟩ := trodAll_cons r3
 obtain ⟨rfl, rfl, rfl⟩ := trodAll_nil r4
 obtain rfl : args = #[v0, v1, v2, v3, v4] := by cases args; simp_all
 obtain ⟨x, rfl, hs_x, wf_x⟩ := expr_arg (hval 0 24 v0 rfl rfl) h0
 obtain ⟨a1_v, a2_v, a3_v, a4_v, rfl, wf_v⟩ := vars_arg (hval 1 25 v1 rfl rfl) h1
 obtain ⟨a0_l, n0_l, c0_l, rfl⟩ := okWide_slice Tryz.underlying26 (hval 2 26 v2 rfl rfl)
 obtain ⟨fu_l, hf_l⟩ := h2
 obtain ⟨a_l, n_l, c_l, l_l, e_l, g1_l, g2_l, hs_l, wf_l⟩ := slr_of_rates (by simpa [Value.cells] using hf_l)
 cases e_l
 obtain ⟨a1_a, a2_a, a3_a, a4_a, rfl, wf_a⟩ := ask_arg (hval 3 28 v3 rfl rfl) h3
 obtain ⟨nt, rfl, rfl, rfl, wnt⟩ := open_int Tryz.underlying3 (hval 4 3 v4 rfl rfl) h4
 clear hA0 hval0
 refine (matches_walk x a1_v a2_v a3_v a4_v _ _ _ l_l a1_a a2_a a3_a a4_a nt wf_x wf_v wf_l wf_a wnt W hs_x ⟨hs_l, g1_l, g2_l⟩).mono fun e W' ⟨he, hb⟩ => ?_
 subst he
 exact ⟨_, rfl, law_post (B := 4) laidOut (by rw [Tryz.params3]; simp only [List.mem_cons, List.not_mem_nil, or_false, forall_eq_or_imp, forall_eq]; first | exact readable_rateMatchesReference | (repeat' apply And.intro) <;> first | exact of_decide_eq_true (by kernel_rfl) | kernel_rfl) rfl Tryz.underlying4 rfl rfl hW' hb⟩
theorem rateMatchesReference_over : Rows.rateMatchesReferenceRow.holds Tryz.pinned (OpenSpec.ofChange Rows.rateMatchesReferenceSpec) :=
 OpenClaim.holds_of_wide 3 Tryz.f3 rfl rfl rfl rfl rfl rfl rfl ⟨rfl, rfl, rfl, rfl, rfl⟩ rfl rfl rfl rfl rfl (by kernel_rfl) Tryz.func3 (by kernel_rfl)
  (of_decide_eq_true (by kernel_rfl)) (by unfold Func.isWrapper; first | (rw [if_pos (by decide +kernel)]; kernel_rfl) | (rw [if_neg (by decide +kernel)]; exact ⟨rfl, rfl⟩))
  (fun os started H enc _ => rateMatchesReference_lifted os started H enc)
theorem rateMatchesReference_holds : Rows.RateMatchesReferenceSaid := rateMatchesReference_over
#print axioms rateMatchesReference_holds
end Go.Proofs.YtcmodmchnokmgaaGreat
