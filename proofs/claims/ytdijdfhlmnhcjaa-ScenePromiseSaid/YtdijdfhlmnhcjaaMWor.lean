/-
  Texts built as one: XWorstA, XWorstB, XWorstC.
-/
import Derived.Test.YtdijdfhlmnhcjaaMShr
import Derived.Test.YtdijdfhlmnhcjaaMPl
namespace Go.Proofs.Ytdijdfhlmnhcjaa

section
set_option linter.unusedSimpArgs false
set_option linter.unusedVariables false
open Go.RowKit

theorem nightB_sh {rooms sold : Int} {zs : List Int} (h : nightB rooms sold zs = true) : sharesB zs = true := by
  unfold nightB at h
  simp only [Bool.and_eq_true] at h
  exact h.1.1
def inB (n most : Int) : Bool := decide (0 ≤ n) && decide (n ≤ most)
theorem inB_true {n most : Int} (h1 : 0 ≤ n) (h2 : n ≤ most) : inB n most = true := by unfold inB; simp [h1, h2]
theorem inB_false {n most : Int} (h : ¬ (0 ≤ n ∧ n ≤ most)) : inB n most = false := by unfold inB; simp; omega
theorem inB_iff {n most : Int} : inB n most = true ↔ 0 ≤ n ∧ n ≤ most := by unfold inB; simp

set_option maxHeartbeats 800000 in
theorem w_within_any (n most : Int) (w : World) :
    Calls Try.prog 48 #[.int .i64 n, .int .i64 most] w fun e w' => e = .returned (.bool (inB n most)) ∧ w = w' := by
  by_cases h1 : 0 ≤ n
  · by_cases h2 : n ≤ most
    · rw [inB_true h1 h2]
      go_enter Try.func48, Try.ntmps48
      go_wp2_with fail
      go_ret
      exact ⟨ret_bool (by first | rfl | (simp; done) | (simp; omega)), rfl⟩
    · rw [inB_false (by omega)]
      go_enter Try.func48, Try.ntmps48
      go_wp2_with fail
      go_ret
      exact ⟨ret_bool (by first | rfl | (simp; done) | (simp; omega)), rfl⟩
  · rw [inB_false (by omega)]
    go_enter Try.func48, Try.ntmps48
    go_wp2_with fail
    go_ret
    exact ⟨ret_bool (by first | rfl | (simp; done) | (simp; omega)), rfl⟩

set_option maxHeartbeats 800000 in
theorem over_any (r s c : Int) (a : Option Addr) (n cap : Nat) (w : World) (hr : 0 ≤ r) (hr2 : r ≤ 400) (hs : 0 ≤ s) (hs2 : s ≤ 1000) :
    Calls Try.prog 51 #[.agg #[.int .i64 r, .int .i64 s, .slice a n cap, .int .i64 c]] w fun e w' => e = .returned (.int .i64 (s - r)) ∧ Below w.heap.size w w' := by
  go_enter Try.func51, Try.ntmps51
  go_wp2_with fail
  go_ret
  refine ⟨rfl, ?_⟩
  (repeat' (first | (with_reducible exact Below.refl _ _) | (with_reducible assumption) | (with_reducible exact Bw.out (by with_reducible assumption)) | (with_reducible refine bw_alloc ?_ _) | (with_reducible refine bw_step ?_ (by with_reducible assumption)) | (with_reducible refine Below.alloc ?_ ?_ _) | (with_reducible refine Below.drew ?_) | (with_reducible refine below_drewN ?_ _) | (with_reducible refine Below.setCell ?_ ?_ _) | (with_reducible refine below_step ?_ (by with_reducible assumption) ?_) | (with_reducible exact Nat.le_refl _) | omega | (simp; omega) | (simp; done)))

theorem topS_le {zs : List Int} (h : shIn zs) (hl : zs.length ≤ 30) (k : Nat) : topS zs k ≤ 12000 := by
  have h1 : topS zs k = (atL zs (topL zs k)).sum := rfl
  have h2 := (atL_sum_bounds h (topL zs k)).2
  have h3 := topL_length zs k
  omega

set_option maxRecDepth 100000 in
set_option maxHeartbeats 1600000 in
theorem walked_any (r s : Int) (c : Nat) (a : Option Addr) (n cap : Nat) (zs : List Int) (w : World) (K : SlC w a n cap zs) (hn : nightB r s zs = true) (hc : c ≤ 30) :
    Calls Try.prog 41 #[.agg #[.int .i64 r, .int .i64 s, .slice a n cap, .int .i64 c]] w fun e w' => e = .returned (.int .i64 (wkI r s zs c)) ∧ Below w.heap.size w w' := by
  obtain ⟨p1, p2, ⟨p3, p4⟩, p5, p6⟩ := nightB_parts hn
  have hsb := nightB_sh hn
  have t1 := topS_nonneg p2 c
  have t2 := topS_le p2 p1 c
  have hl : n ≤ 30 := by have := K.1; omega
  unfold wkI
  obtain ⟨T, hT⟩ : ∃ T, topS zs c = T := ⟨_, rfl⟩
  rw [hT] at t1 t2 ⊢
  have HT := Lib.hid hT
  obtain ⟨m, hm⟩ : ∃ m, min c n = m := ⟨_, rfl⟩
  have HM := Lib.hid hm
  clear hT hm p2 hn
  go_enter Try.func41, Try.ntmps41
  go_wp2_with fail
  refine (top_c c m _ _ _ _ zs _ (K.step (by (repeat' (first | (with_reducible exact Below.refl _ _) | (with_reducible assumption) | (with_reducible exact Bw.out (by with_reducible assumption)) | (with_reducible refine bw_alloc ?_ _) | (with_reducible refine bw_step ?_ (by with_reducible assumption)) | (with_reducible refine Below.alloc ?_ ?_ _) | (with_reducible refine Below.drew ?_) | (with_reducible refine below_drewN ?_ _) | (with_reducible refine Below.setCell ?_ ?_ _) | (with_reducible refine below_step ?_ (by with_reducible assumption) ?_) | (with_reducible exact Nat.le_refl _) | omega | (simp; omega) | (simp; done))))) rfl hc hsb HM.out hl).mono ?_
  rintro e w1 ⟨b1, d1, rfl, K1, hb1⟩
  have R_n_1 : Row w1 (w.heap.size) [.int .i64 r, .int .i64 s, .slice a n cap, .int .i64 c] := by (repeat' (first | (with_reducible assumption) | (with_reducible refine Row.new' _ _ _ (by first | rfl | (simp; done) | omega)) | (with_reducible refine Row.alloc ?_ _) | (with_reducible refine Row.drew ?_) | (with_reducible refine Row.drewN ?_ _) | (with_reducible refine Row.step ?_ (by with_reducible assumption)) | (with_reducible refine Row.set2' ?_ _ _; first | exact ⟨_, _, by with_reducible assumption⟩ | exact ⟨_, _, Row.alloc (by with_reducible assumption) _⟩ | exact ⟨_, _, Row.alloc (Row.alloc (by with_reducible assumption) _) _⟩) | (with_reducible refine Row.other ?_ (by first | omega | (simp; done) | (simp; omega)) _)))
  have c_n_0_1 := R_n_1.cell 0 rfl
  have c_n_1_1 := R_n_1.cell 1 rfl
  have c_n_2_1 := R_n_1.cell 2 rfl
  have c_n_3_1 := R_n_1.cell 3 rfl
  have l_n_1 := R_n_1.lt
  replace K := K.step (show Below w.heap.size w w1 by (repeat' (first | (with_reducible exact Below.refl _ _) | (with_reducible assumption) | (with_reducible exact Bw.out (by with_reducible assumption)) | (with_reducible refine bw_alloc ?_ _) | (with_reducible refine bw_step ?_ (by with_reducible assumption)) | (with_reducible refine Below.alloc ?_ ?_ _) | (with_reducible refine Below.drew ?_) | (with_reducible refine below_drewN ?_ _) | (with_reducible refine Below.setCell ?_ ?_ _) | (with_reducible refine below_step ?_ (by with_reducible assumption) ?_) | (with_reducible exact Nat.le_refl _) | omega | (simp; omega) | (simp; done))))
  have HB1 : Below w.heap.size w w1 := by (repeat' (first | (with_reducible exact Below.refl _ _) | (with_reducible assumption) | (with_reducible exact Bw.out (by with_reducible assumption)) | (with_reducible refine bw_alloc ?_ _) | (with_reducible refine bw_step ?_ (by with_reducible assumption)) | (with_reducible refine Below.alloc ?_ ?_ _) | (with_reducible refine Below.drew ?_) | (with_reducible refine below_drewN ?_ _) | (with_reducible refine Below.setCell ?_ ?_ _) | (with_reducible refine below_step ?_ (by with_reducible assumption) ?_) | (with_reducible exact Nat.le_refl _) | omega | (simp; omega) | (simp; done)))
  rw [HT.out]
  go_wp2_with fail
  refine (over_any _ _ _ _ _ _ _ p3 p4 p5 p6).mono ?_
  rintro e w2 ⟨rfl, hb2⟩
  have R_n_2 : Row w2 (w.heap.size) [.int .i64 r, .int .i64 s, .slice a n cap, .int .i64 c] := by (repeat' (first | (with_reducible assumption) | (with_reducible refine Row.new' _ _ _ (by first | rfl | (simp; done) | omega)) | (with_reducible refine Row.alloc ?_ _) | (with_reducible refine Row.drew ?_) | (with_reducible refine Row.drewN ?_ _) | (with_reducible refine Row.step ?_ (by with_reducible assumption)) | (with_reducible refine Row.set2' ?_ _ _; first | exact ⟨_, _, by with_reducible assumption⟩ | exact ⟨_, _, Row.alloc (by with_reducible assumption) _⟩ | exact ⟨_, _, Row.alloc (Row.alloc (by with_reducible assumption) _) _⟩) | (with_reducible refine Row.other ?_ (by first | omega | (simp; done) | (simp; omega)) _)))
  have c_n_0_2 := R_n_2.cell 0 rfl
  have c_n_1_2 := R_n_2.cell 1 rfl
  have c_n_2_2 := R_n_2.cell 2 rfl
  have c_n_3_2 := R_n_2.cell 3 rfl
  have l_n_2 := R_n_2.lt
  replace K := K.step (show Below w1.heap.size w1 w2 by (repeat' (first | (with_reducible exact Below.refl _ _) | (with_reducible assumption) | (with_reducible exact Bw.out (by with_reducible assumption)) | (with_reducible refine bw_alloc ?_ _) | (with_reducible refine bw_step ?_ (by with_reducible assumption)) | (with_reducible refine Below.alloc ?_ ?_ _) | (with_reducible refine Below.drew ?_) | (with_reducible refine below_drewN ?_ _) | (with_reducible refine Below.setCell ?_ ?_ _) | (with_reducible refine below_step ?_ (by with_reducible assumption) ?_) | (with_reducible exact Nat.le_refl _) | omega | (simp; omega) | (simp; done))))
  have HB2 : Below w.heap.size w w2 := by (repeat' (first | (with_reducible exact Below.refl _ _) | (with_reducible assumption) | (with_reducible exact Bw.out (by with_reducible assumption)) | (with_reducible refine bw_alloc ?_ _) | (with_reducible refine bw_step ?_ (by with_reducible assumption)) | (with_reducible refine Below.alloc ?_ ?_ _) | (with_reducible refine Below.drew ?_) | (with_reducible refine below_drewN ?_ _) | (with_reducible refine Below.setCell ?_ ?_ _) | (with_reducible refine below_step ?_ (by with_reducible assumption) ?_) | (with_reducible exact Nat.le_refl _) | omega | (simp; omega) | (simp; done)))
  clear R_n_1 c_n_0_1 c_n_1_1 c_n_2_1 c_n_3_1 hb1 HB1
  go_wp2_with fail
  all_goals
    go_ret
    refine ⟨ret_int (by omega), ?_⟩
    (repeat' (first | (with_reducible exact Below.refl _ _) | (with_reducible assumption) | (with_reducible exact Bw.out (by with_reducible assumption)) | (with_reducible refine bw_alloc ?_ _) | (with_reducible refine bw_step ?_ (by with_reducible assumption)) | (with_reducible refine Below.alloc ?_ ?_ _) | (with_reducible refine Below.drew ?_) | (with_reducible refine below_drewN ?_ _) | (with_reducible refine Below.setCell ?_ ?_ _) | (with_reducible refine below_step ?_ (by with_reducible assumption) ?_) | (with_reducible exact Nat.le_refl _) | omega | (simp; omega) | (simp; done)))

end

section
set_option linter.unusedSimpArgs false
set_option linter.unusedVariables false
open Go.RowKit

set_option maxRecDepth 100000 in
set_option maxHeartbeats 1600000 in
theorem w_right_any (a : Option Addr) (n cap : Nat) (l : List NightV) (c : Int) (w : World) (hm : n ≤ 9223372036854775807) (hs : SlN w a n l) (B : Bool) (hB : (nightsB l && inB c 30) = B) :
    Calls Try.prog 40 #[.slice a n cap, .int .i64 c] w fun e w' => e = .returned (.bool B) ∧ Below w.heap.size w w' := by
  have HS := Lib.hid hs
  subst hB
  clear hs
  cases hv : nightsB l with
  | false =>
    go_enter Try.func40, Try.ntmps40
    go_wp2_with fail
    refine (share_valid_any _ _ _ l _ hm HS.out).mono ?_
    rintro e w1 ⟨rfl, hb1⟩
    have HB1 : Below w.heap.size w w1 := by (repeat' (first | (with_reducible exact Below.refl _ _) | (with_reducible assumption) | (with_reducible exact Bw.out (by with_reducible assumption)) | (with_reducible refine bw_alloc ?_ _) | (with_reducible refine bw_step ?_ (by with_reducible assumption)) | (with_reducible refine Below.alloc ?_ ?_ _) | (with_reducible refine Below.drew ?_) | (with_reducible refine below_drewN ?_ _) | (with_reducible refine Below.setCell ?_ ?_ _) | (with_reducible refine below_step ?_ (by with_reducible assumption) ?_) | (with_reducible exact Nat.le_refl _) | omega | (simp; omega) | (simp; done)))
    rw [hv]
    go_wp2_with fail
    go_ret
    refine ⟨ret_bool (by simp), ?_⟩
    (repeat' (first | (with_reducible exact Below.refl _ _) | (with_reducible assumption) | (with_reducible exact Bw.out (by with_reducible assumption)) | (with_reducible refine bw_alloc ?_ _) | (with_reducible refine bw_step ?_ (by with_reducible assumption)) | (with_reducible refine Below.alloc ?_ ?_ _) | (with_reducible refine Below.drew ?_) | (with_reducible refine below_drewN ?_ _) | (with_reducible refine Below.setCell ?_ ?_ _) | (with_reducible refine below_step ?_ (by with_reducible assumption) ?_) | (with_reducible exact Nat.le_refl _) | omega | (simp; omega) | (simp; done)))
  | true =>
    obtain ⟨b, hb⟩ : ∃ b, inB c 30 = b := ⟨_, rfl⟩
    have HBB := Lib.hid hb
    rw [hb]
    clear hb
    go_enter Try.func40, Try.ntmps40
    go_wp2_with fail
    refine (share_valid_any _ _ _ l _ hm HS.out).mono ?_
    rintro e w1 ⟨rfl, hb1⟩
    have HB1 : Below w.heap.size w w1 := by (repeat' (first | (with_reducible exact Below.refl _ _) | (with_reducible assumption) | (with_reducible exact Bw.out (by with_reducible assumption)) | (with_reducible refine bw_alloc ?_ _) | (with_reducible refine bw_step ?_ (by with_reducible assumption)) | (with_reducible refine Below.alloc ?_ ?_ _) | (with_reducible refine Below.drew ?_) | (with_reducible refine below_drewN ?_ _) | (with_reducible refine Below.setCell ?_ ?_ _) | (with_reducible refine below_step ?_ (by with_reducible assumption) ?_) | (with_reducible exact Nat.le_refl _) | omega | (simp; omega) | (simp; done)))
    rw [hv]
    go_wp2_with fail
    refine (w_within_any c 30 _).mono ?_
    rintro e w' ⟨rfl, rfl⟩
    rw [HBB.out]
    go_wp2_with fail
    go_ret
    refine ⟨ret_bool (by simp), ?_⟩
    (repeat' (first | (with_reducible exact Below.refl _ _) | (with_reducible assumption) | (with_reducible exact Bw.out (by with_reducible assumption)) | (with_reducible refine bw_alloc ?_ _) | (with_reducible refine bw_step ?_ (by with_reducible assumption)) | (with_reducible refine Below.alloc ?_ ?_ _) | (with_reducible refine Below.drew ?_) | (with_reducible refine below_drewN ?_ _) | (with_reducible refine Below.setCell ?_ ?_ _) | (with_reducible refine below_step ?_ (by with_reducible assumption) ?_) | (with_reducible exact Nat.le_refl _) | omega | (simp; omega) | (simp; done)))

/-- One night, as a list. -/
def nightOf (r s : Int) (a : Option Addr) (n cap : Nat) (zs : List Int) : NightV := ⟨r, s, a, n, cap, zs⟩
theorem one_night {w : World} {B : Nat} {r s : Int} {a : Option Addr} {n cap : Nat} {zs : List Int} (hr : Row w B [.int .i64 r, .int .i64 s, .slice a n cap]) (hn : n ≤ 9223372036854775807) (hs : SlI w a n zs) :
    SlN w (some ⟨B, 0, none⟩) 1 [nightOf r s a n cap zs] := ⟨rfl, fun i x hx => by
    match i, hx with
    | 0, hx => cases hx; exact ⟨⟨hn, hs⟩, B, 0, rfl, hr.cell 0 rfl, hr.cell 1 rfl, hr.cell 2 rfl⟩
    | i + 1, hx => simp at hx⟩
theorem nightsB_one (r s : Int) (a : Option Addr) (n cap : Nat) (zs : List Int) : nightsB [nightOf r s a n cap zs] = nightB r s zs := by
  unfold nightsB
  simp [NightV.ok, nightOf]

/-- What Walked returns. -/
def waE (r s : Int) (zs : List Int) (c : Int) : Bool := nightB r s zs && inB c 30
def ifI (b : Bool) (x y : Int) : Int := if b then x else y

set_option maxRecDepth 100000 in
set_option maxHeartbeats 3200000 in
theorem Walked_any (r s c : Int) (a : Option Addr) (n cap : Nat) (zs : List Int) (w : World) (K : SlC w a n cap zs) (hm : n ≤ 9223372036854775807) (X E : Int) (hX : ifI (waE r s zs c) (wkI r s zs c.toNat) 0 = X) (hE : ifI (waE r s zs c) 0 1 = E) :
    Calls Try.prog 23 #[.agg #[.int .i64 r, .int .i64 s, .slice a n cap], .int .i64 c] w fun e w' => e = .returned (.tuple #[.int .i64 X, .int .i64 E]) ∧ Below w.heap.size w w' := by
  have h1 := nightsB_one r s a n cap zs
  cases hb : waE r s zs c with
  | false =>
    rw [hb] at hX hE
    obtain rfl : (0 : Int) = X := hX
    obtain rfl : (1 : Int) = E := hE
    have hb2 : (nightsB [nightOf r s a n cap zs] && inB c 30) = false := by rw [h1]; exact hb
    clear h1
    have HB := Lib.hid hb2
    clear hb2 hb
    go_enter Try.func23, Try.ntmps23
    go_wp2_with fail
    refine (w_right_any _ _ _ [nightOf r s a n cap zs] c _ (by omega) (one_night (by (repeat' (first | (with_reducible assumption) | (with_reducible refine Row.new' _ _ _ (by first | rfl | (simp; done) | omega)) | (with_reducible refine Row.alloc ?_ _) | (with_reducible refine Row.drew ?_) | (with_reducible refine Row.drewN ?_ _) | (with_reducible refine Row.step ?_ (by with_reducible assumption))))) hm (K.step (by (repeat' (first | (with_reducible exact Below.refl _ _) | (with_reducible assumption) | (with_reducible exact Bw.out (by with_reducible assumption)) | (with_reducible refine bw_alloc ?_ _) | (with_reducible refine bw_step ?_ (by with_reducible assumption)) | (with_reducible refine Below.alloc ?_ ?_ _) | (with_reducible refine Below.drew ?_) | (with_reducible refine below_drewN ?_ _) | (with_reducible refine Below.setCell ?_ ?_ _) | (with_reducible refine below_step ?_ (by with_reducible assumption) ?_) | (with_reducible exact Nat.le_refl _) | omega | (simp; omega) | (simp; done))))).sl) false HB.out).mono ?_
    rintro e w1 ⟨rfl, hb1⟩
    replace K := K.step (show Below w.heap.size w w1 by (repeat' (first | (with_reducible exact Below.refl _ _) | (with_reducible assumption) | (with_reducible exact Bw.out (by with_reducible assumption)) | (with_reducible refine bw_alloc ?_ _) | (with_reducible refine bw_step ?_ (by with_reducible assumption)) | (with_reducible refine Below.alloc ?_ ?_ _) | (with_reducible refine Below.drew ?_) | (with_reducible refine below_drewN ?_ _) | (with_reducible refine Below.setCell ?_ ?_ _) | (with_reducible refine below_step ?_ (by with_reducible assumption) ?_) | (with_reducible exact Nat.le_refl _) | omega | (simp; omega) | (simp; done))))
    have HB1 : Below w.heap.size w w1 := by (repeat' (first | (with_reducible exact Below.refl _ _) | (with_reducible assumption) | (with_reducible exact Bw.out (by with_reducible assumption)) | (with_reducible refine bw_alloc ?_ _) | (with_reducible refine bw_step ?_ (by with_reducible assumption)) | (with_reducible refine Below.alloc ?_ ?_ _) | (with_reducible refine Below.drew ?_) | (with_reducible refine below_drewN ?_ _) | (with_reducible refine Below.setCell ?_ ?_ _) | (with_reducible refine below_step ?_ (by with_reducible assumption) ?_) | (with_reducible exact Nat.le_refl _) | omega | (simp; omega) | (simp; done)))
    go_wp2_with fail
    go_ret2
    refine ⟨rfl, ?_⟩
    (repeat' (first | (with_reducible exact Below.refl _ _) | (with_reducible assumption) | (with_reducible exact Bw.out (by with_reducible assumption)) | (with_reducible refine bw_alloc ?_ _) | (with_reducible refine bw_step ?_ (by with_reducible assumption)) | (with_reducible refine Below.alloc ?_ ?_ _) | (with_reducible refine Below.drew ?_) | (with_reducible refine below_drewN ?_ _) | (with_reducible refine Below.setCell ?_ ?_ _) | (with_reducible refine below_step ?_ (by with_reducible assumption) ?_) | (with_reducible exact Nat.le_refl _) | omega | (simp; omega) | (simp; done)))
  | true =>
    rw [hb] at hX hE
    obtain rfl : (0 : Int) = E := hE
    have hX : wkI r s zs c.toNat = X := hX
    have hb2 : (nightsB [nightOf r s a n cap zs] && inB c 30) = true := by rw [h1]; exact hb
    unfold waE at hb
    simp only [Bool.and_eq_true] at hb
    obtain ⟨hn, hc⟩ := hb
    obtain ⟨hc1, hc2⟩ := inB_iff.1 hc
    obtain ⟨k, rfl⟩ := Int.eq_ofNat_of_zero_le hc1
    rw [Int.toNat_natCast] at hX
    have HB := Lib.hid hb2
    have HX := Lib.hid hX
    clear hb2 h1 hc hc1
    go_enter Try.func23, Try.ntmps23
    go_wp2_with fail
    refine (w_right_any _ _ _ [nightOf r s a n cap zs] k _ (by omega) (one_night (by (repeat' (first | (with_reducible assumption) | (with_reducible refine Row.new' _ _ _ (by first | rfl | (simp; done) | omega)) | (with_reducible refine Row.alloc ?_ _) | (with_reducible refine Row.drew ?_) | (with_reducible refine Row.drewN ?_ _) | (with_reducible refine Row.step ?_ (by with_reducible assumption))))) hm (K.step (by (repeat' (first | (with_reducible exact Below.refl _ _) | (with_reducible assumption) | (with_reducible exact Bw.out (by with_reducible assumption)) | (with_reducible refine bw_alloc ?_ _) | (with_reducible refine bw_step ?_ (by with_reducible assumption)) | (with_reducible refine Below.alloc ?_ ?_ _) | (with_reducible refine Below.drew ?_) | (with_reducible refine below_drewN ?_ _) | (with_reducible refine Below.setCell ?_ ?_ _) | (with_reducible refine below_step ?_ (by with_reducible assumption) ?_) | (with_reducible exact Nat.le_refl _) | omega | (simp; omega) | (simp; done))))).sl) true HB.out).mono ?_
    rintro e w1 ⟨rfl, hb1⟩
    have R_n_1 : Row w1 (w.heap.size) [.int .i64 r, .int .i64 s, .slice a n cap] := by (repeat' (first | (with_reducible assumption) | (with_reducible refine Row.new' _ _ _ (by first | rfl | (simp; done) | omega)) | (with_reducible refine Row.alloc ?_ _) | (with_reducible refine Row.drew ?_) | (with_reducible refine Row.drewN ?_ _) | (with_reducible refine Row.step ?_ (by with_reducible assumption)) | (with_reducible refine Row.set2' ?_ _ _; first | exact ⟨_, _, by with_reducible assumption⟩ | exact ⟨_, _, Row.alloc (by with_reducible assumption) _⟩ | exact ⟨_, _, Row.alloc (Row.alloc (by with_reducible assumption) _) _⟩) | (with_reducible refine Row.other ?_ (by first | omega | (simp; done) | (simp; omega)) _)))
    have c_n_0_1 := R_n_1.cell 0 rfl
    have c_n_1_1 := R_n_1.cell 1 rfl
    have c_n_2_1 := R_n_1.cell 2 rfl
    have l_n_1 := R_n_1.lt
    replace K := K.step (show Below w.heap.size w w1 by (repeat' (first | (with_reducible exact Below.refl _ _) | (with_reducible assumption) | (with_reducible exact Bw.out (by with_reducible assumption)) | (with_reducible refine bw_alloc ?_ _) | (with_reducible refine bw_step ?_ (by with_reducible assumption)) | (with_reducible refine Below.alloc ?_ ?_ _) | (with_reducible refine Below.drew ?_) | (with_reducible refine below_drewN ?_ _) | (with_reducible refine Below.setCell ?_ ?_ _) | (with_reducible refine below_step ?_ (by with_reducible assumption) ?_) | (with_reducible exact Nat.le_refl _) | omega | (simp; omega) | (simp; done))))
    have HB1 : Below w.heap.size w w1 := by (repeat' (first | (with_reducible exact Below.refl _ _) | (with_reducible assumption) | (with_reducible exact Bw.out (by with_reducible assumption)) | (with_reducible refine bw_alloc ?_ _) | (with_reducible refine bw_step ?_ (by with_reducible assumption)) | (with_reducible refine Below.alloc ?_ ?_ _) | (with_reducible refine Below.drew ?_) | (with_reducible refine below_drewN ?_ _) | (with_reducible refine Below.setCell ?_ ?_ _) | (with_reducible refine below_step ?_ (by with_reducible assumption) ?_) | (with_reducible exact Nat.le_refl _) | omega | (simp; omega) | (simp; done)))
    go_wp2_with fail
    refine (walked_any r s k _ _ _ zs _ (K.step (by (repeat' (first | (with_reducible exact Below.refl _ _) | (with_reducible assumption) | (with_reducible exact Bw.out (by with_reducible assumption)) | (with_reducible refine bw_alloc ?_ _) | (with_reducible refine bw_step ?_ (by with_reducible assumption)) | (with_reducible refine Below.alloc ?_ ?_ _) | (with_reducible refine Below.drew ?_) | (with_reducible refine below_drewN ?_ _) | (with_reducible refine Below.setCell ?_ ?_ _) | (with_reducible refine below_step ?_ (by with_reducible assumption) ?_) | (with_reducible exact Nat.le_refl _) | omega | (simp; omega) | (simp; done))))) hn (by omega)).mono ?_
    rintro e w2 ⟨rfl, hb2⟩
    have R_n_2 : Row w2 (w.heap.size) [.int .i64 r, .int .i64 s, .slice a n cap] := by (repeat' (first | (with_reducible assumption) | (with_reducible refine Row.new' _ _ _ (by first | rfl | (simp; done) | omega)) | (with_reducible refine Row.alloc ?_ _) | (with_reducible refine Row.drew ?_) | (with_reducible refine Row.drewN ?_ _) | (with_reducible refine Row.step ?_ (by with_reducible assumption)) | (with_reducible refine Row.set2' ?_ _ _; first | exact ⟨_, _, by with_reducible assumption⟩ | exact ⟨_, _, Row.alloc (by with_reducible assumption) _⟩ | exact ⟨_, _, Row.alloc (Row.alloc (by with_reducible assumption) _) _⟩) | (with_reducible refine Row.other ?_ (by first | omega | (simp; done) | (simp; omega)) _)))
    have c_n_0_2 := R_n_2.cell 0 rfl
    have c_n_1_2 := R_n_2.cell 1 rfl
    have c_n_2_2 := R_n_2.cell 2 rfl
    have l_n_2 := R_n_2.lt
    replace K := K.step (show Below w1.heap.size w1 w2 by (repeat' (first | (with_reducible exact Below.refl _ _) | (with_reducible assumption) | (with_reducible exact Bw.out (by with_reducible assumption)) | (with_reducible refine bw_alloc ?_ _) | (with_reducible refine bw_step ?_ (by with_reducible assumption)) | (with_reducible refine Below.alloc ?_ ?_ _) | (with_reducible refine Below.drew ?_) | (with_reducible refine below_drewN ?_ _) | (with_reducible refine Below.setCell ?_ ?_ _) | (with_reducible refine below_step ?_ (by with_reducible assumption) ?_) | (with_reducible exact Nat.le_refl _) | omega | (simp; omega) | (simp; done))))
    have HB2 : Below w.heap.size w w2 := by (repeat' (first | (with_reducible exact Below.refl _ _) | (with_reducible assumption) | (with_reducible exact Bw.out (by with_reducible assumption)) | (with_reducible refine bw_alloc ?_ _) | (with_reducible refine bw_step ?_ (by with_reducible assumption)) | (with_reducible refine Below.alloc ?_ ?_ _) | (with_reducible refine Below.drew ?_) | (with_reducible refine below_drewN ?_ _) | (with_reducible refine Below.setCell ?_ ?_ _) | (with_reducible refine below_step ?_ (by with_reducible assumption) ?_) | (with_reducible exact Nat.le_refl _) | omega | (simp; omega) | (simp; done)))
    clear R_n_1 c_n_0_1 c_n_1_1 c_n_2_1 hb1 HB1
    rw [HX.out]
    go_wp2_with fail
    go_ret2
    refine ⟨rfl, ?_⟩
    (repeat' (first | (with_reducible exact Below.refl _ _) | (with_reducible assumption) | (with_reducible exact Bw.out (by with_reducible assumption)) | (with_reducible refine bw_alloc ?_ _) | (with_reducible refine bw_step ?_ (by with_reducible assumption)) | (with_reducible refine Below.alloc ?_ ?_ _) | (with_reducible refine Below.drew ?_) | (with_reducible refine below_drewN ?_ _) | (with_reducible refine Below.setCell ?_ ?_ _) | (with_reducible refine below_step ?_ (by with_reducible assumption) ?_) | (with_reducible exact Nat.le_refl _) | omega | (simp; omega) | (simp; done)))

end

section
set_option linter.unusedSimpArgs false
set_option linter.unusedVariables false
open Go.RowKit

theorem ret2_int {k l : IntKind} {a b c : Int} (h : a = b) : Ending.returned (.tuple #[.int k a, .int l c]) = .returned (.tuple #[.int k b, .int l c]) := by rw [h]
/-- What Empty returns. -/
def emE (r s : Int) (zs : List Int) (away : Int) : Bool := nightB r s zs && inB away 3000
def emI (r s away : Int) : Int := max 0 (r - max 0 (s - away))

theorem nightsB_at {l : List NightV} (h : nightsB l = true) {i : Nat} {x : NightV} (hx : l[i]? = some x) : nightB x.rooms x.sold x.zs = true := by
  unfold nightsB at h
  simp only [Bool.and_eq_true, List.all_eq_true] at h
  exact h.2 x (List.mem_of_getElem? hx)
theorem nightsB_len {l : List NightV} (h : nightsB l = true) : l.length ≤ 366 := by
  unfold nightsB at h
  simp only [Bool.and_eq_true, decide_eq_true_eq] at h
  exact h.1
theorem SlI.c {w : World} {a : Option Addr} {n cap : Nat} {zs : List Int} (h : SlI w a n zs) (h1 : n ≤ cap) (h2 : cap ≤ maxLen) : SlC w a n cap zs := ⟨h.1, a, cap, by rw [h.1], by rw [h.1]; exact h, by rw [h.1]; exact h1, h2⟩
def wkN (c : Nat) (x : NightV) : Int := wkI x.rooms x.sold x.zs c
theorem OwnV.drewN {w : World} {base : Nat} {v : Value} {zs : List Int} (h : OwnV w base v zs) (n : Nat) : OwnV (w.drewN n) base v zs := h

theorem OwnV.formT {w : World} {base : Nat} {v : Value} {zs : List Int} (h : OwnV w base v zs) (n : Nat) (hn : zs.length = n) : ∃ a c, v = .slice a n c ∧ OwnV w base (.slice a n c) zs := by
  obtain ⟨a, c, e, _⟩ := h.sl
  subst hn
  subst e
  exact ⟨a, c, rfl, h⟩

end

end Go.Proofs.Ytdijdfhlmnhcjaa
