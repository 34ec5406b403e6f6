/-
  The walks of package worst, first part: within, over, walked, right, Walked, Empty.
-/
import Derived.Test.YtijbhdpaikajkaaShareI0
import Derived.Test.YtijbhdpaikajkaaMore0
import Derived.Test.YtijbhdpaikajkaaMBase
namespace Go.Proofs.Ytijbhdpaikajkaa
set_option linter.unusedSimpArgs false
set_option linter.unusedVariables false
open Go.RowKit

theorem nightB_sh {rooms sold : Int} {zs : List Int} (h : nightB rooms sold zs = true) : sharesB zs = true := by
  unfold nightB at h
  simp only [Bool.and_eq_true] at h
  exact h.1.1
def inB (n most : Int) : Bool := decide (0 ≤ n) && decide (n ≤ most)
theorem inB_true {n most : Int} (h1 : 0 ≤ n) (h2 : n ≤ most) : inB n most = true := by unfold inB; simp [h1, h2]
theorem inB_false {n most : Int} (h : ¬ (0 ≤ n ∧ n ≤ most)) : inB n most = false := by unfold inB; simp; omega
theorem inB_iff {n most : Int} : inB n most = true ↔ 0 ≤ n ∧ n ≤ most := by unfold inB; simp

set_option maxHeartbeats 800000 in
theorem w_within_any (n most : Int) (w : World) :
    Calls Try.prog 59 #[.int .i64 n, .int .i64 most] w fun e w' => e = .returned (.bool (inB n most)) ∧ w = w' := by
  by_cases h1 : 0 ≤ n
  · by_cases h2 : n ≤ most
    · rw [inB_true h1 h2]
      go_enter Try.func59, Try.ntmps59
      go_wp2_with fail
      go_ret
      exact ⟨ret_bool (by first | rfl | (simp; done) | (simp; omega)), rfl⟩
    · rw [inB_false (by omega)]
      go_enter Try.func59, Try.ntmps59
      go_wp2_with fail
      go_ret
      exact ⟨ret_bool (by first | rfl | (simp; done) | (simp; omega)), rfl⟩
  · rw [inB_false (by omega)]
    go_enter Try.func59, Try.ntmps59
    go_wp2_with fail
    go_ret
    exact ⟨ret_bool (by first | rfl | (simp; done) | (simp; omega)), rfl⟩

set_option maxHeartbeats 800000 in
theorem over_any (r s c : Int) (a : Option Addr) (n cap : Nat) (w : World) (hr : 0 ≤ r) (hr2 : r ≤ 400) (hs : 0 ≤ s) (hs2 : s ≤ 1000) :
    Calls Try.prog 62 #[.agg #[.int .i64 r, .int .i64 s, .slice a n cap, .int .i64 c]] w fun e w' => e = .returned (.int .i64 (s - r)) ∧ Below w.heap.size w w' := by
  go_enter Try.func62, Try.ntmps62
  go_wp2_with fail
  go_ret
  refine ⟨rfl, ?_⟩
  (repeat' (first | (with_reducible exact Below.refl _ _) | (with_reducible assumption) | (with_reducible exact Bw.out (by with_reducible assumption)) | (with_reducible refine bw_alloc ?_ _) | (with_reducible refine bw_step ?_ (by with_reducible assumption)) | (with_reducible refine Below.alloc ?_ ?_ _) | (with_reducible refine Below.drew ?_) | (with_reducible refine below_drewN ?_ _) | (with_reducible refine Below.setCell ?_ ?_ _) | (with_reducible refine below_step ?_ (by with_reducible assumption) ?_) | (with_reducible exact Nat.le_refl _) | omega | (simp; omega) | (simp; done)))

theorem topS_le {zs : List Int} (h : shIn zs) (hl : zs.length ≤ 30) (k : Nat) : topS zs k ≤ 12000 := by
  have h1 : topS zs k = (atL zs (topL zs k)).sum := rfl
  have h2 := (atL_sum_bounds h (topL zs k)).2
  have h3 := topL_length zs k
  omega

set_option maxRecDepth 100000 in
set_option maxHeartbeats 1600000 in
theorem walked_any (r s : Int) (c : Nat) (a : Option Addr) (n cap : Nat) (zs : List Int) (w : World) (K : SlC w a n cap zs) (hn : nightB r s zs = true) (hc : c ≤ 30) :
    Calls Try.prog 52 #[.agg #[.int .i64 r, .int .i64 s, .slice a n cap, .int .i64 c]] w fun e w' => e = .returned (.int .i64 (wkI r s zs c)) ∧ Below w.heap.size w w' := by
  obtain ⟨p1, p2, ⟨p3, p4⟩, p5, p6⟩ := nightB_parts hn
  have hsb := nightB_sh hn
  have t1 := topS_nonneg p2 c
  have t2 := topS_le p2 p1 c
  have hl : n ≤ 30 := by have := K.1; omega
  unfold wkI
  obtain ⟨T, hT⟩ : ∃ T, topS zs c = T := ⟨_, rfl⟩
  rw [hT] at t1 t2 ⊢
  have HT := Lib.hid hT
  obtain ⟨m, hm⟩ : ∃ m, min c n = m := ⟨_, rfl⟩
  have HM := Lib.hid hm
  clear hT hm p2 hn
  go_enter Try.func52, Try.ntmps52
  go_wp2_with fail
  refine (top_c c m _ _ _ _ zs _ (K.step (by (repeat' (first | (with_reducible exact Below.refl _ _) | (with_reducible assumption) | (with_reducible exact Bw.out (by with_reducible assumption)) | (with_reducible refine bw_alloc ?_ _) | (with_reducible refine bw_step ?_ (by with_reducible assumption)) | (with_reducible refine Below.alloc ?_ ?_ _) | (with_reducible refine Below.drew ?_) | (with_reducible refine below_drewN ?_ _) | (with_reducible refine Below.setCell ?_ ?_ _) | (with_reducible refine below_step ?_ (by with_reducible assumption) ?_) | (with_reducible exact Nat.le_refl _) | omega | (simp; omega) | (simp; done))))) rfl hc hsb HM.out hl).mono ?_
  rintro e w1 ⟨b1, d1, rfl, K1, hb1⟩
  have R_n_1 : Row w1 (w.heap.size) [.int .i64 r, .int .i64 s, .slice a n cap, .int .i64 c] := by (repeat' (first | (with_reducible assumption) | (with_reducible refine Row.new' _ _ _ (by first | rfl | (simp; done) | omega)) | (with_reducible refine Row.alloc ?_ _) | (with_reducible refine Row.drew ?_) | (with_reducible refine Row.drewN ?_ _) | (with_reducible refine Row.step ?_ (by with_reducible assumption)) | (with_reducible refine Row.set2' ?_ _ _; first | exact ⟨_, _, by with_reducible assumption⟩ | exact ⟨_, _, Row.alloc (by with_reducible assumption) _⟩ | exact ⟨_, _, Row.alloc (Row.alloc (by with_reducible assumption) _) _⟩) | (with_reducible refine Row.other ?_ (by first | omega | (simp; done) | (simp; omega)) _)))
  have c_n_0_1 := R_n_1.cell 0 rfl
  have c_n_1_1 := R_n_1.cell 1 rfl
  have c_n_2_1 := R_n_1.cell 2 rfl
  have c_n_3_1 := R_n_1.cell 3 rfl
  have l_n_1 := R_n_1.lt
  replace K := K.step (show Below w.heap.size w w1 by (repeat' (first | (with_reducible exact Below.refl _ _) | (with_reducible assumption) | (with_reducible exact Bw.out (by with_reducible assumption)) | (with_reducible refine bw_alloc ?_ _) | (with_reducible refine bw_step ?_ (by with_reducible assumption)) | (with_reducible refine Below.alloc ?_ ?_ _) | (with_reducible refine Below.drew ?_) | (with_reducible refine below_drewN ?_ _) | (with_reducible refine Below.setCell ?_ ?_ _) | (with_reducible refine below_step ?_ (by with_reducible assumption) ?_) | (with_reducible exact Nat.le_refl _) | omega | (simp; omega) | (simp; done))))
  have HB1 : Below w.heap.size w w1 := by (repeat' (first | (with_reducible exact Below.refl _ _) | (with_reducible assumption) | (with_reducible exact Bw.out (by with_reducible assumption)) | (with_reducible refine bw_alloc ?_ _) | (with_reducible refine bw_step ?_ (by with_reducible assumption)) | (with_reducible refine Below.alloc ?_ ?_ _) | (with_reducible refine Below.drew ?_) | (with_reducible refine below_drewN ?_ _) | (with_reducible refine Below.setCell ?_ ?_ _) | (with_reducible refine below_step ?_ (by with_reducible assumption) ?_) | (with_reducible exact Nat.le_refl _) | omega | (simp; omega) | (simp; done)))
  rw [HT.out]
  go_wp2_with fail
  refine (over_any _ _ _ _ _ _ _ p3 p4 p5 p6).mono ?_
  rintro e w2 ⟨rfl, hb2⟩
  have R_n_2 : Row w2 (w.heap.size) [.int .i64 r, .int .i64 s, .slice a n cap, .int .i64 c] := by (repeat' (first | (with_reducible assumption) | (with_reducible refine Row.new' _ _ _ (by first | rfl | (simp; done) | omega)) | (with_reducible refine Row.alloc ?_ _) | (with_reducible refine Row.drew ?_) | (with_reducible refine Row.drewN ?_ _) | (with_reducible refine Row.step ?_ (by with_reducible assumption)) | (with_reducible refine Row.set2' ?_ _ _; first | exact ⟨_, _, by with_reducible assumption⟩ | exact ⟨_, _, Row.alloc (by with_reducible assumption) _⟩ | exact ⟨_, _, Row.alloc (Row.alloc (by with_reducible assumption) _) _⟩) | (with_reducible refine Row.other ?_ (by first | omega | (simp; done) | (simp; omega)) _)))
  have c_n_0_2 := R_n_2.cell 0 rfl
  have c_n_1_2 := R_n_2.cell 1 rfl
  have c_n_2_2 := R_n_2.cell 2 rfl
  have c_n_3_2 := R_n_2.cell 3 rfl
  have l_n_2 := R_n_2.lt
  replace K := K.step (show Below w1.heap.size w1 w2 by (repeat' (first | (with_reducible exact Below.refl _ _) | (with_reducible assumption) | (with_reducible exact Bw.out (by with_reducible assumption)) | (with_reducible refine bw_alloc ?_ _) | (with_reducible refine bw_step ?_ (by with_reducible assumption)) | (with_reducible refine Below.alloc ?_ ?_ _) | (with_reducible refine Below.drew ?_) | (with_reducible refine below_drewN ?_ _) | (with_reducible refine Below.setCell ?_ ?_ _) | (with_reducible refine below_step ?_ (by with_reducible assumption) ?_) | (with_reducible exact Nat.le_refl _) | omega | (simp; omega) | (simp; done))))
  have HB2 : Below w.heap.size w w2 := by (repeat' (first | (with_reducible exact Below.refl _ _) | (with_reducible assumption) | (with_reducible exact Bw.out (by with_reducible assumption)) | (with_reducible refine bw_alloc ?_ _) | (with_reducible refine bw_step ?_ (by with_reducible assumption)) | (with_reducible refine Below.alloc ?_ ?_ _) | (with_reducible refine Below.drew ?_) | (with_reducible refine below_drewN ?_ _) | (with_reducible refine Below.setCell ?_ ?_ _) | (with_reducible refine below_step ?_ (by with_reducible assumption) ?_) | (with_reducible exact Nat.le_refl _) | omega | (simp; omega) | (simp; done)))
  clear R_n_1 c_n_0_1 c_n_1_1 c_n_2_1 c_n_3_1 hb1 HB1
  go_wp2_with fail
  all_goals
    go_ret
    refine ⟨ret_int (by omega), ?_⟩
    (repeat' (first | (with_reducible exact Below.refl _ _) | (with_reducible assumption) | (with_reducible exact Bw.out (by with_reducible assumption)) | (with_reducible refine bw_alloc ?_ _) | (with_reducible refine bw_step ?_ (by with_reducible assumption)) | (with_reducible refine Below.alloc ?_ ?_ _) | (with_reducible refine Below.drew ?_) | (with_reducible refine below_drewN ?_ _) | (with_reducible refine Below.setCell ?_ ?_ _) | (with_reducible refine below_step ?_ (by with_reducible assumption) ?_) | (with_reducible exact Nat.le_refl _) | omega | (simp; omega) | (simp; done)))

end Go.Proofs.Ytijbhdpaikajkaa
