/-
 The walks of package ratio, seventh part: Round and Part.
-/
import Derived.Test.YtcmodmchnokmgaaRatU
import Derived.Test.YtcmodmchnokmgaaRatZ
namespace Go.Proofs.Ytcmodmchnokmgaa
set_option linter.unusedSimpArgs false
set_option linter.unusedVariables false
open Go.RowKit
theorem zero_rounder (w : World) : (zeroValue 119).run Try.prog w = .ok (.agg #[.nilFunc]) w := by kernel_rfl
theorem look_1 : look rmap 1 = some (.agg #[.func (.func 103) #[] #[]]) := by simp [look, rmap]
theorem look_2 : look rmap 2 = some (.agg #[.func (.func 104) #[] #[]]) := by simp [look, rmap]
theorem look_3 : look rmap 3 = some (.agg #[.func (.func 105) #[] #[]]) := by simp [look, rmap]
theorem look_no {way : Int} (h : ¬ (1 ≤ way ∧ way ≤ 3)) : look rmap way = none := by
 have h1 : ¬ way = 1 := by omega
 have h2 : ¬ way = 2 := by omega
 have h3 : ¬ way = 3 := by omega
 simp [look, rmap, h1, h2, h3]
/-- What Round returns. -/
def rdP (a b way : Int) : Prop := vldP a b ∧ 1 ≤ way ∧ way ≤ 3
instance (a b way : Int) : Decidable (rdP a b way) := by unfold rdP; exact inferInstance
def rdVal (a b way : Int) : Int := if rdP a b way then rnd way a b else 0
def rdErr (a b way : Int) : Int := if rdP a b way then 0 else 1
theorem rd_ok {a b way : Int} (h : rdP a b way) : rdVal a b way = rnd way a b ∧ rdErr a b way = 0 := ⟨if_pos h, if_pos h⟩
theorem rd_not {a b way : Int} (h : ¬ rdP a b way) : rdVal a b way = 0 ∧ rdErr a b way = 1 := ⟨if_neg h, if_neg h⟩
set_option maxHeartbeats 800000 in
theorem Round1_any (a b : Int) (w : World) :
  Calls Try.prog 83 #[.agg #[.int .i64 a, .int .i64 b], .int .i64 1] w fun e w' =>
   e = .returned (.tuple #[.int .i64 (rdVal a b 1), .int .i64 (rdErr a b 1)]) ∧ Below w.heap.size w w' := by
 have hl := look_1
 have hzr := zero_rounder
 by_cases v1 : vldP a b
 ·
  obtain ⟨o1, o2⟩ := rd_ok (a := a) (b := b) (way := 1) ⟨v1, by omega, by omega⟩
  rw [o1, o2]
  have e1 := vld_true v1
  obtain ⟨p1, p2, p3, p4, _⟩ := v1
  clear o1 o2
  go_enter Try.func83, Try.ntmps83
  go_wp2_with fail
  refine (rounders_any _).mono ?_
  rintro e w1 ⟨r, rfl, hm1, hb1, hr1⟩
  obtain ⟨hc1, hz1⟩ := bcell hb1
  have hs1 : w.heap.size < w1.heap.size := by have := hb1.size; simp at this; omega
  go_wp2_with (refine wpList_lookup_imap _ rfl _ _ 121 true rfl 3 119 Try.underlying121 Try.underlying3 _ (hzr _) _ _ rfl hm1 _ rfl ?_)
  refine (valid_any _ _ _).mono ?_
  rintro e w2 ⟨rfl, hb2⟩
  obtain ⟨hc2, hz2⟩ := bcell hb2
  have hs2 : w.heap.size < w2.heap.size := by have := hb2.size; simp at this; omega
  have hs3 : w1.heap.size < w2.heap.size := by have := hb2.size; simp at this; omega
  go_wp2_with fail
  refine (round1_any _ _ _ (by omega) (by omega) (by omega) (by omega)).mono ?_
  rintro e w3 ⟨rfl, hb3⟩
  go_wp2_with fail
  go_ret2
  refine ⟨rfl, ?_⟩
  (repeat' (first | (with_reducible first | exact Below.refl _ _ | assumption | exact Bw.out (by assumption) | refine bw_alloc ?_ _ | refine bw_step ?_ (by assumption) | refine Below.alloc ?_ ?_ _ | refine Below.drew ?_ | refine below_drewN ?_ _ | refine Below.setCell ?_ ?_ _ | refine below_step ?_ (by assumption) ?_ | exact Nat.le_refl _) | omega | (simp; omega) | (simp; done)))
 ·
  obtain ⟨o1, o2⟩ := rd_not (a := a) (b := b) (way := 1) (fun h => v1 h.1)
  rw [o1, o2]
  have e1 := vld_false v1
  clear o1 o2
  go_enter Try.func83, Try.ntmps83
  go_wp2_with fail
  refine (rounders_any _).mono ?_
  rintro e w1 ⟨r, rfl, hm1, hb1, hr1⟩
  obtain ⟨hc1, hz1⟩ := bcell hb1
  have hs1 : w.heap.size < w1.heap.size := by have := hb1.size; simp at this; omega
  go_wp2_with (refine wpList_lookup_imap _ rfl _ _ 121 true rfl 3 119 Try.underlying121 Try.underlying3 _ (hzr _) _ _ rfl hm1 _ rfl ?_)
  refine (valid_any _ _ _).mono ?_
  rintro e w2 ⟨rfl, hb2⟩
  go_wp2_with fail
  go_ret2
  refine ⟨rfl, ?_⟩
  (repeat' (first | (with_reducible first | exact Below.refl _ _ | assumption | exact Bw.out (by assumption) | refine bw_alloc ?_ _ | refine bw_step ?_ (by assumption) | refine Below.alloc ?_ ?_ _ | refine Below.drew ?_ | refine below_drewN ?_ _ | refine Below.setCell ?_ ?_ _ | refine below_step ?_ (by assumption) ?_ | exact Nat.le_refl _) | omega | (simp; omega) | (simp; done)))
set_option maxHeartbeats 800000 in
theorem Round2_any (a b : Int) (w : World) :
  Calls Try.prog 83 #[.agg #[.int .i64 a, .int .i64 b], .int .i64 2] w fun e w' =>
   e = .returned (.tuple #[.int .i64 (rdVal a b 2), .int .i64 (rdErr a b 2)]) ∧ Below w.heap.size w w' := by
 have hl := look_2
 have hzr := zero_rounder
 by_cases v1 : vldP a b
 ·
  obtain ⟨o1, o2⟩ := rd_ok (a := a) (b := b) (way := 2) ⟨v1, by omega, by omega⟩
  rw [o1, o2]
  have e1 := vld_true v1
  obtain ⟨p1, p2, p3, p4, _⟩ := v1
  clear o1 o2
  go_enter Try.func83, Try.ntmps83
  go_wp2_with fail
  refine (rounders_any _).mono ?_
  rintro e w1 ⟨r, rfl, hm1, hb1, hr1⟩
  obtain ⟨hc1, hz1⟩ := bcell hb1
  have hs1 : w.heap.size < w1.heap.size := by have := hb1.size; simp at this; omega
  go_wp2_with (refine wpList_lookup_imap _ rfl _ _ 121 true rfl 3 119 Try.underlying121 Try.underlying3 _ (hzr _) _ _ rfl hm1 _ rfl ?_)
  refine (valid_any _ _ _).mono ?_
  rintro e w2 ⟨rfl, hb2⟩
  obtain ⟨hc2, hz2⟩ := bcell hb2
  have hs2 : w.heap.size < w2.heap.size := by have := hb2.size; simp at this; omega
  have hs3 : w1.heap.size < w2.heap.size := by have := hb2.size; simp at this; omega
  go_wp2_with fail
  refine (round2_any _ _ _ (by omega) (by omega) (by omega) (by omega)).mono ?_
  rintro e w3 ⟨rfl, hb3⟩
  go_wp2_with fail
  go_ret2
  refine ⟨rfl, ?_⟩
  (repeat' (first | (with_reducible first | exact Below.refl _ _ | assumption | exact Bw.out (by assumption) | refine bw_alloc ?_ _ | refine bw_step ?_ (by assumption) | refine Below.alloc ?_ ?_ _ | refine Below.drew ?_ | refine below_drewN ?_ _ | refine Below.setCell ?_ ?_ _ | refine below_step ?_ (by assumption) ?_ | exact Nat.le_refl _) | omega | (simp; omega) | (simp; done)))
 ·
  obtain ⟨o1, o2⟩ := rd_not (a := a) (b := b) (way := 2) (fun h => v1 h.1)
  rw [o1, o2]
  have e1 := vld_false v1
  clear o1 o2
  go_enter Try.func83, Try.ntmps83
  go_wp2_with fail
  refine (rounders_any _).mono ?_
  rintro e w1 ⟨r, rfl, hm1, hb1, hr1⟩
  obtain ⟨hc1, hz1⟩ := bcell hb1
  have hs1 : w.heap.size < w1.heap.size := by have := hb1.size; simp at this; omega
  go_wp2_with (refine wpList_lookup_imap _ rfl _ _ 121 true rfl 3 119 Try.underlying121 Try.underlying3 _ (hzr _) _ _ rfl hm1 _ rfl ?_)
  refine (valid_any _ _ _).mono ?_
  rintro e w2 ⟨rfl, hb2⟩
  go_wp2_with fail
  go_ret2
  refine ⟨rfl, ?_⟩
  (repeat' (first | (with_reducible first | exact Below.refl _ _ | assumption | exact Bw.out (by assumption) | refine bw_alloc ?_ _ | refine bw_step ?_ (by assumption) | refine Below.alloc ?_ ?_ _ | refine Below.drew ?_ | refine below_drewN ?_ _ | refine Below.setCell ?_ ?_ _ | refine below_step ?_ (by assumption) ?_ | exact Nat.le_refl _) | omega | (simp; omega) | (simp; done)))
set_option maxHeartbeats 800000 in
theorem Round3_any (a b : Int) (w : World) :
  Calls Try.prog 83 #[.agg #[.int .i64 a, .int .i64 b], .int .i64 3] w fun e w' =>
   e = .returned (.tuple #[.int .i64 (rdVal a b 3), .int .i64 (rdErr a b 3)]) ∧ Below w.heap.size w w' := by
 have hl := look_3
 have hzr := zero_rounder
 by_cases v1 : vldP a b
 ·
  obtain ⟨o1, o2⟩ := rd_ok (a := a) (b := b) (way := 3) ⟨v1, by omega, by omega⟩
  rw [o1, o2]
  have e1 := vld_true v1
  obtain ⟨p1, p2, p3, p4, _⟩ := v1
  clear o1 o2
  go_enter Try.func83, Try.ntmps83
  go_wp2_with fail
  refine (rounders_any _).mono ?_
  rintro e w1 ⟨r, rfl, hm1, hb1, hr1⟩
  obtain ⟨hc1, hz1⟩ := bcell hb1
  have hs1 : w.heap.size < w1.heap.size := by have := hb1.size; simp at this; omega
  go_wp2_with (refine wpList_lookup_imap _ rfl _ _ 121 true rfl 3 119 Try.underlying121 Try.underlying3 _ (hzr _) _ _ rfl hm1 _ rfl ?_)
  refine (valid_any _ _ _).mono ?_
  rintro e w2 ⟨rfl, hb2⟩
  obtain ⟨hc2, hz2⟩ := bcell hb2
  have hs2 : w.heap.size < w2.heap.size := by have := hb2.size; simp at this; omega
  have hs3 : w1.heap.size < w2.heap.size := by have := hb2.size; simp at this; omega
  go_wp2_with fail
  refine (round3_any _ _ _ (by omega) (by omega) (by omega) (by omega)).mono ?_
  rintro e w3 ⟨rfl, hb3⟩
  go_wp2_with fail
  go_ret2
  refine ⟨rfl, ?_⟩
  (repeat' (first | (with_reducible first | exact Below.refl _ _ | assumption | exact Bw.out (by assumption) | refine bw_alloc ?_ _ | refine bw_step ?_ (by assumption) | refine Below.alloc ?_ ?_ _ | refine Below.drew ?_ | refine below_drewN ?_ _ | refine Below.setCell ?_ ?_ _ | refine below_step ?_ (by assumption) ?_ | exact Nat.le_refl _) | omega | (simp; omega) | (simp; done)))
 ·
  obtain ⟨o1, o2⟩ := rd_not (a := a) (b := b) (way := 3) (fun h => v1 h.1)
  rw [o1, o2]
  have e1 := vld_false v1
  clear o1 o2
  go_enter Try.func83, Try.ntmps83
  go_wp2_with fail
  refine (rounders_any _).mono ?_
  rintro e w1 ⟨r, rfl, hm1, hb1, hr1⟩
  obtain ⟨hc1, hz1⟩ := bcell hb1
  have hs1 : w.heap.size < w1.heap.size := by have := hb1.size; simp at this; omega
  go_wp2_with (refine wpList_lookup_imap _ rfl _ _ 121 true rfl 3 119 Try.underlying121 Try.underlying3 _ (hzr _) _ _ rfl hm1 _ rfl ?_)
  refine (valid_any _ _ _).mono ?_
  rintro e w2 ⟨rfl, hb2⟩
  go_wp2_with fail
  go_ret2
  refine ⟨rfl, ?_⟩
  (repeat' (first | (with_reducible first | exact Below.refl _ _ | assumption | exact Bw.out (by assumption) | refine bw_alloc ?_ _ | refine bw_step ?_ (by assumption) | refine Below.alloc ?_ ?_ _ | refine Below.drew ?_ | refine below_drewN ?_ _ | refine Below.setCell ?_ ?_ _ | refine below_step ?_ (by assumption) ?_ | exact Nat.le_refl _) | omega | (simp; omega) | (simp; done)))
set_option maxHeartbeats 800000 in
theorem Round_no (a b way : Int) (w : World) (h : ¬ (1 ≤ way ∧ way ≤ 3)) :
  Calls Try.prog 83 #[.agg #[.int .i64 a, .int .i64 b], .int .i64 way] w fun e w' =>
   e = .returned (.tuple #[.int .i64 0, .int .i64 1]) ∧ Below w.heap.size w w' := by
 have hl := look_no h
 have hzr := zero_rounder
 clear h
 go_enter Try.func83, Try.ntmps83
 go_wp2_with fail
 refine (rounders_any _).mono ?_
 rintro e w1 ⟨r, rfl, hm1, hb1, hr1⟩
 obtain ⟨hc1, hz1⟩ := bcell hb1
 have hs1 : w.heap.size < w1.heap.size := by have := hb1.size; simp at this; omega
 go_wp2_with (refine wpList_lookup_imap _ rfl _ _ 121 true rfl 3 119 Try.underlying121 Try.underlying3 _ (hzr _) _ _ rfl hm1 _ rfl ?_)
 go_ret2
 refine ⟨rfl, ?_⟩
 (repeat' (first | (with_reducible first | exact Below.refl _ _ | assumption | exact Bw.out (by assumption) | refine bw_alloc ?_ _ | refine bw_step ?_ (by assumption) | refine Below.alloc ?_ ?_ _ | refine Below.drew ?_ | refine below_drewN ?_ _ | refine Below.setCell ?_ ?_ _ | refine below_step ?_ (by assumption) ?_ | exact Nat.le_refl _) | omega | (simp; omega) | (simp; done)))
/-- Round, for every ratio and way. -/
theorem Round_any (a b way : Int) (w : World) :
  Calls Try.prog 83 #[.agg #[.int .i64 a, .int .i64 b], .int .i64 way] w fun e w' =>
   e = .returned (.tuple #[.int .i64 (rdVal a b way), .int .i64 (rdErr a b way)]) ∧ Below w.heap.size w w' := by
 by_cases h : 1 ≤ way ∧ way ≤ 3
 ·
  obtain rfl | rfl | rfl : way = 1 ∨ way = 2 ∨ way = 3 := by omega
  ·
   exact Round1_any a b w
  ·
   exact Round2_any a b w
  ·
   exact Round3_any a b w
 ·
  obtain ⟨o1, o2⟩ := rd_not (a := a) (b := b) (way := way) (fun hh => h hh.2)
  rw [o1, o2]
  exact Round_no a b way w h
/-- What Part returns. -/
def ptP (n a b way : Int) : Prop := vldP a b ∧ (1 ≤ way ∧ way ≤ 3) ∧ -1000000000 ≤ n ∧ n ≤ 1000000000
instance (n a b way : Int) : Decidable (ptP n a b way) := by unfold ptP; exact inferInstance
def ptIn (n a b way : Int) : Prop := -1000000000 ≤ rnd way (n * a) b ∧ rnd way (n * a) b ≤ 1000000000
instance (n a b way : Int) : Decidable (ptIn n a b way) := by unfold ptIn; exact inferInstance
def ptVal (n a b way : Int) : Int := if ptP n a b way ∧ ptIn n a b way then rnd way (n * a) b else 0
def ptErr (n a b way : Int) : Int := if ptP n a b way then (if ptIn n a b way then 0 else 3) else 1
theorem pt_ok {n a b way : Int} (h : ptP n a b way) (h2 : ptIn n a b way) : ptVal n a b way = rnd way (n * a) b ∧ ptErr n a b way = 0 := by simp [ptVal, ptErr, h, h2]
theorem pt_far {n a b way : Int} (h : ptP n a b way) (h2 : ¬ ptIn n a b way) : ptVal n a b way = 0 ∧ ptErr n a b way = 3 := by simp [ptVal, ptErr, h, h2]
theorem pt_not {n a b way : Int} (h : ¬ ptP n a b way) : ptVal n a b way = 0 ∧ ptErr n a b way = 1 := by simp [ptVal, ptErr, h]
set_option maxHeartbeats 1600000 in
theorem Part1_any (n a b : Int) (w : World) :
  Calls Try.prog 56 #[.int .i64 n, .agg #[.int .i64 a, .int .i64 b], .int .i64 1] w fun e w' =>
   e = .returned (.tuple #[.int .i64 (ptVal n a b 1), .int .i64 (ptErr n a b 1)]) ∧ Below w.heap.size w w' := by
 have hl := look_1
 have hzr := zero_rounder
 by_cases v1 : vldP a b
 ·
  have e1 := vld_true v1
  by_cases hn : -1000000000 ≤ n ∧ n ≤ 1000000000
  ·
   obtain ⟨n1, n2⟩ := hn
   have hP : ptP n a b 1 := ⟨v1, ⟨by omega, by omega⟩, n1, n2⟩
   obtain ⟨p1, p2, p3, p4, _⟩ := v1
   obtain ⟨q1, q2⟩ := mul_le_1e15 (a := n) (b := a) (x := 1000000000) (y := 1000000000) (by omega) (by omega) (by omega) (by omega)
   have hB := rnd_bound 1 (n := n * a) (d := b) (by omega)
   obtain ⟨b1, b2⟩ : -1000000000000000000 ≤ rnd 1 (n * a) b ∧ rnd 1 (n * a) b ≤ 1000000000000000001 := by omega
   clear hB
   by_cases hi : ptIn n a b 1
   ·
    obtain ⟨o1, o2⟩ := pt_ok hP hi
    rw [o1, o2]
    have ha := absI_le hi.1 hi.2
    clear o1 o2 hP hi
    go_enter Try.func56, Try.ntmps56
    go_wp2_with fail
    refine (rounders_any _).mono ?_
    rintro e w1 ⟨r, rfl, hm1, hb1, hr1⟩
    obtain ⟨hc1, hz1⟩ := bcell hb1
    have hs1 : w.heap.size < w1.heap.size := by have := hb1.size; simp at this; omega
    go_wp2_with (refine wpList_lookup_imap _ rfl _ _ 121 true rfl 3 119 Try.underlying121 Try.underlying3 _ (hzr _) _ _ rfl hm1 _ rfl ?_)
    refine (valid_any _ _ _).mono ?_
    rintro e w2 ⟨rfl, hb2⟩
    obtain ⟨hc2, hz2⟩ := bcell hb2
    have hs2 : w.heap.size < w2.heap.size := by have := hb2.size; simp at this; omega
    have hs3 : w1.heap.size < w2.heap.size := by have := hb2.size; simp at this; omega
    go_wp2_with fail
    refine (round1_any _ _ _ (by omega) (by omega) (by omega) (by omega)).mono ?_
    rintro e w3 ⟨rfl, hb3⟩
    go_wp2_with (go_at_call 86; refine (size_any _ _ (by omega) (by omega)).mono ?_; rintro e w' ⟨rfl, rfl⟩)
    go_ret2
    refine ⟨rfl, ?_⟩
    (repeat' (first | (with_reducible first | exact Below.refl _ _ | assumption | exact Bw.out (by assumption) | refine bw_alloc ?_ _ | refine bw_step ?_ (by assumption) | refine Below.alloc ?_ ?_ _ | refine Below.drew ?_ | refine below_drewN ?_ _ | refine Below.setCell ?_ ?_ _ | refine below_step ?_ (by assumption) ?_ | exact Nat.le_refl _) | omega | (simp; omega) | (simp; done)))
   ·
    obtain ⟨o1, o2⟩ := pt_far hP hi
    rw [o1, o2]
    have ha := absI_gt (m := 1000000000) (by omega) hi
    clear o1 o2 hP hi
    go_enter Try.func56, Try.ntmps56
    go_wp2_with fail
    refine (rounders_any _).mono ?_
    rintro e w1 ⟨r, rfl, hm1, hb1, hr1⟩
    obtain ⟨hc1, hz1⟩ := bcell hb1
    have hs1 : w.heap.size < w1.heap.size := by have := hb1.size; simp at this; omega
    go_wp2_with (refine wpList_lookup_imap _ rfl _ _ 121 true rfl 3 119 Try.underlying121 Try.underlying3 _ (hzr _) _ _ rfl hm1 _ rfl ?_)
    refine (valid_any _ _ _).mono ?_
    rintro e w2 ⟨rfl, hb2⟩
    obtain ⟨hc2, hz2⟩ := bcell hb2
    have hs2 : w.heap.size < w2.heap.size := by have := hb2.size; simp at this; omega
    have hs3 : w1.heap.size < w2.heap.size := by have := hb2.size; simp at this; omega
    go_wp2_with fail
    refine (round1_any _ _ _ (by omega) (by omega) (by omega) (by omega)).mono ?_
    rintro e w3 ⟨rfl, hb3⟩
    go_wp2_with (go_at_call 86; refine (size_any _ _ (by omega) (by omega)).mono ?_; rintro e w' ⟨rfl, rfl⟩)
    go_ret2
    refine ⟨rfl, ?_⟩
    (repeat' (first | (with_reducible first | exact Below.refl _ _ | assumption | exact Bw.out (by assumption) | refine bw_alloc ?_ _ | refine bw_step ?_ (by assumption) | refine Below.alloc ?_ ?_ _ | refine Below.drew ?_ | refine below_drewN ?_ _ | refine Below.setCell ?_ ?_ _ | refine below_step ?_ (by assumption) ?_ | exact Nat.le_refl _) | omega | (simp; omega) | (simp; done)))
  ·
   obtain ⟨o1, o2⟩ := pt_not (n := n) (a := a) (b := b) (way := 1) (fun h => hn h.2.2)
   rw [o1, o2]
   clear o1 o2
   have hn' : n < -1000000000 ∨ (-1000000000 ≤ n ∧ 1000000000 < n) := by omega
   clear hn
   rcases hn' with hn | ⟨hn, hn2⟩
   all_goals
    go_enter Try.func56, Try.ntmps56
    go_wp2_with fail
    refine (rounders_any _).mono ?_
    rintro e w1 ⟨r, rfl, hm1, hb1, hr1⟩
    obtain ⟨hc1, hz1⟩ := bcell hb1
    have hs1 : w.heap.size < w1.heap.size := by have := hb1.size; simp at this; omega
    go_wp2_with (refine wpList_lookup_imap _ rfl _ _ 121 true rfl 3 119 Try.underlying121 Try.underlying3 _ (hzr _) _ _ rfl hm1 _ rfl ?_)
    refine (valid_any _ _ _).mono ?_
    rintro e w2 ⟨rfl, hb2⟩
    go_wp2_with fail
    go_ret2
    refine ⟨rfl, ?_⟩
    (repeat' (first | (with_reducible first | exact Below.refl _ _ | assumption | exact Bw.out (by assumption) | refine bw_alloc ?_ _ | refine bw_step ?_ (by assumption) | refine Below.alloc ?_ ?_ _ | refine Below.drew ?_ | refine below_drewN ?_ _ | refine Below.setCell ?_ ?_ _ | refine below_step ?_ (by assumption) ?_ | exact Nat.le_refl _) | omega | (simp; omega) | (simp; done)))
 ·
  obtain ⟨o1, o2⟩ := pt_not (n := n) (a := a) (b := b) (way := 1) (fun h => v1 h.1)
  rw [o1, o2]
  have e1 := vld_false v1
  clear o1 o2
  go_enter Try.func56, Try.ntmps56
  go_wp2_with fail
  refine (rounders_any _).mono ?_
  rintro e w1 ⟨r, rfl, hm1, hb1, hr1⟩
  obtain ⟨hc1, hz1⟩ := bcell hb1
  have hs1 : w.heap.size < w1.heap.size := by have := hb1.size; simp at this; omega
  go_wp2_with (refine wpList_lookup_imap _ rfl _ _ 121 true rfl 3 119 Try.underlying121 Try.underlying3 _ (hzr _) _ _ rfl hm1 _ rfl ?_)
  refine (valid_any _ _ _).mono ?_
  rintro e w2 ⟨rfl, hb2⟩
  go_wp2_with fail
  go_ret2
  refine ⟨rfl, ?_⟩
  (repeat' (first | (with_reducible first | exact Below.refl _ _ | assumption | exact Bw.out (by assumption) | refine bw_alloc ?_ _ | refine bw_step ?_ (by assumption) | refine Below.alloc ?_ ?_ _ | refine Below.drew ?_ | refine below_drewN ?_ _ | refine Below.setCell ?_ ?_ _ | refine below_step ?_ (by assumption) ?_ | exact Nat.le_refl _) | omega | (simp; omega) | (simp; done)))
set_option maxHeartbeats 1600000 in
theorem Part2_any (n a b : Int) (w : World) :
  Calls Try.prog 56 #[.int .i64 n, .agg #[.int .i64 a, .int .i64 b], .int .i64 2] w fun e w' =>
   e = .returned (.tuple #[.int .i64 (ptVal n a b 2), .int .i64 (ptErr n a b 2)]) ∧ Below w.heap.size w w' := by
 have hl := look_2
 have hzr := zero_rounder
 by_cases v1 : vldP a b
 ·
  have e1 := vld_true v1
  by_cases hn : -1000000000 ≤ n ∧ n ≤ 1000000000
  ·
   obtain ⟨n1, n2⟩ := hn
   have hP : ptP n a b 2 := ⟨v1, ⟨by omega, by omega⟩, n1, n2⟩
   obtain ⟨p1, p2, p3, p4, _⟩ := v1
   obtain ⟨q1, q2⟩ := mul_le_1e15 (a := n) (b := a) (x := 1000000000) (y := 1000000000) (by omega) (by omega) (by omega) (by omega)
   have hB := rnd_bound 2 (n := n * a) (d := b) (by omega)
   obtain ⟨b1, b2⟩ : -1000000000000000000 ≤ rnd 2 (n * a) b ∧ rnd 2 (n * a) b ≤ 1000000000000000001 := by omega
   clear hB
   by_cases hi : ptIn n a b 2
   ·
    obtain ⟨o1, o2⟩ := pt_ok hP hi
    rw [o1, o2]
    have ha := absI_le hi.1 hi.2
    clear o1 o2 hP hi
    go_enter Try.func56, Try.ntmps56
    go_wp2_with fail
    refine (rounders_any _).mono ?_
    rintro e w1 ⟨r, rfl, hm1, hb1, hr1⟩
    obtain ⟨hc1, hz1⟩ := bcell hb1
    have hs1 : w.heap.size < w1.heap.size := by have := hb1.size; simp at this; omega
    go_wp2_with (refine wpList_lookup_imap _ rfl _ _ 121 true rfl 3 119 Try.underlying121 Try.underlying3 _ (hzr _) _ _ rfl hm1 _ rfl ?_)
    refine (valid_any _ _ _).mono ?_
    rintro e w2 ⟨rfl, hb2⟩
    obtain ⟨hc2, hz2⟩ := bcell hb2
    have hs2 : w.heap.size < w2.heap.size := by have := hb2.size; simp at this; omega
    have hs3 : w1.heap.size < w2.heap.size := by have := hb2.size; simp at this; omega
    go_wp2_with fail
    refine (round2_any _ _ _ (by omega) (by omega) (by omega) (by omega)).mono ?_
    rintro e w3 ⟨rfl, hb3⟩
    go_wp2_with (go_at_call 86; refine (size_any _ _ (by omega) (by omega)).mono ?_; rintro e w' ⟨rfl, rfl⟩)
    go_ret2
    refine ⟨rfl, ?_⟩
    (repeat' (first | (with_reducible first | exact Below.refl _ _ | assumption | exact Bw.out (by assumption) | refine bw_alloc ?_ _ | refine bw_step ?_ (by assumption) | refine Below.alloc ?_ ?_ _ | refine Below.drew ?_ | refine below_drewN ?_ _ | refine Below.setCell ?_ ?_ _ | refine below_step ?_ (by assumption) ?_ | exact Nat.le_refl _) | omega | (simp; omega) | (simp; done)))
   ·
    obtain ⟨o1, o2⟩ := pt_far hP hi
    rw [o1, o2]
    have ha := absI_gt (m := 1000000000) (by omega) hi
    clear o1 o2 hP hi
    go_enter Try.func56, Try.ntmps56
    go_wp2_with fail
    refine (rounders_any _).mono ?_
    rintro e w1 ⟨r, rfl, hm1, hb1, hr1⟩
    obtain ⟨hc1, hz1⟩ := bcell hb1
    have hs1 : w.heap.size < w1.heap.size := by have := hb1.size; simp at this; omega
    go_wp2_with (refine wpList_lookup_imap _ rfl _ _ 121 true rfl 3 119 Try.underlying121 Try.underlying3 _ (hzr _) _ _ rfl hm1 _ rfl ?_)
    refine (valid_any _ _ _).mono ?_
    rintro e w2 ⟨rfl, hb2⟩
    obtain ⟨hc2, hz2⟩ := bcell hb2
    have hs2 : w.heap.size < w2.heap.size := by have := hb2.size; simp at this; omega
    have hs3 : w1.heap.size < w2.heap.size := by have := hb2.size; simp at this; omega
    go_wp2_with fail
    refine (round2_any _ _ _ (by omega) (by omega) (by omega) (by omega)).mono ?_
    rintro e w3 ⟨rfl, hb3⟩
    go_wp2_with (go_at_call 86; refine (size_any _ _ (by omega) (by omega)).mono ?_; rintro e w' ⟨rfl, rfl⟩)
    go_ret2
    refine ⟨rfl, ?_⟩
    (repeat' (first | (with_reducible first | exact Below.refl _ _ | assumption | exact Bw.out (by assumption) | refine bw_alloc ?_ _ | refine bw_step ?_ (by assumption) | refine Below.alloc ?_ ?_ _ | refine Below.drew ?_ | refine below_drewN ?_ _ | refine Below.setCell ?_ ?_ _ | refine below_step ?_ (by assumption) ?_ | exact Nat.le_refl _) | omega | (simp; omega) | (simp; done)))
  ·
   obtain ⟨o1, o2⟩ := pt_not (n := n) (a := a) (b := b) (way := 2) (fun h => hn h.2.2)
   rw [o1, o2]
   clear o1 o2
   have hn' : n < -1000000000 ∨ (-1000000000 ≤ n ∧ 1000000000 < n) := by omega
   clear hn
   rcases hn' with hn | ⟨hn, hn2⟩
   all_goals
    go_enter Try.func56, Try.ntmps56
    go_wp2_with fail
    refine (rounders_any _).mono ?_
    rintro e w1 ⟨r, rfl, hm1, hb1, hr1⟩
    obtain ⟨hc1, hz1⟩ := bcell hb1
    have hs1 : w.heap.size < w1.heap.size := by have := hb1.size; simp at this; omega
    go_wp2_with (refine wpList_lookup_imap _ rfl _ _ 121 true rfl 3 119 Try.underlying121 Try.underlying3 _ (hzr _) _ _ rfl hm1 _ rfl ?_)
    refine (valid_any _ _ _).mono ?_
    rintro e w2 ⟨rfl, hb2⟩
    go_wp2_with fail
    go_ret2
    refine ⟨rfl, ?_⟩
    (repeat' (first | (with_reducible first | exact Below.refl _ _ | assumption | exact Bw.out (by assumption) | refine bw_alloc ?_ _ | refine bw_step ?_ (by assumption) | refine Below.alloc ?_ ?_ _ | refine Below.drew ?_ | refine below_drewN ?_ _ | refine Below.setCell ?_ ?_ _ | refine below_step ?_ (by assumption) ?_ | exact Nat.le_refl _) | omega | (simp; omega) | (simp; done)))
 ·
  obtain ⟨o1, o2⟩ := pt_not (n := n) (a := a) (b := b) (way := 2) (fun h => v1 h.1)
  rw [o1, o2]
  have e1 := vld_false v1
  clear o1 o2
  go_enter Try.func56, Try.ntmps56
  go_wp2_with fail
  refine (rounders_any _).mono ?_
  rintro e w1 ⟨r, rfl, hm1, hb1, hr1⟩
  obtain ⟨hc1, hz1⟩ := bcell hb1
  have hs1 : w.heap.size < w1.heap.size := by have := hb1.size; simp at this; omega
  go_wp2_with (refine wpList_lookup_imap _ rfl _ _ 121 true rfl 3 119 Try.underlying121 Try.underlying3 _ (hzr _) _ _ rfl hm1 _ rfl ?_)
  refine (valid_any _ _ _).mono ?_
  rintro e w2 ⟨rfl, hb2⟩
  go_wp2_with fail
  go_ret2
  refine ⟨rfl, ?_⟩
  (repeat' (first | (with_reducible first | exact Below.refl _ _ | assumption | exact Bw.out (by assumption) | refine bw_alloc ?_ _ | refine bw_step ?_ (by assumption) | refine Below.alloc ?_ ?_ _ | refine Below.drew ?_ | refine below_drewN ?_ _ | refine Below.setCell ?_ ?_ _ | refine below_step ?_ (by assumption) ?_ | exact Nat.le_refl _) | omega | (simp; omega) | (simp; done)))
set_option maxHeartbeats 1600000 in
theorem Part3_any (n a b : Int) (w : World) :
  Calls Try.prog 56 #[.int .i64 n, .agg #[.int .i64 a, .int .i64 b], .int .i64 3] w fun e w' =>
   e = .returned (.tuple #[.int .i64 (ptVal n a b 3), .int .i64 (ptErr n a b 3)]) ∧ Below w.heap.size w w' := by
 have hl := look_3
 have hzr := zero_rounder
 by_cases v1 : vldP a b
 ·
  have e1 := vld_true v1
  by_cases hn : -1000000000 ≤ n ∧ n ≤ 1000000000
  ·
   obtain ⟨n1, n2⟩ := hn
   have hP : ptP n a b 3 := ⟨v1, ⟨by omega, by omega⟩, n1, n2⟩
   obtain ⟨p1, p2, p3, p4, _⟩ := v1
   obtain ⟨q1, q2⟩ := mul_le_1e15 (a := n) (b := a) (x := 1000000000) (y := 1000000000) (by omega) (by omega) (by omega) (by omega)
   have hB := rnd_bound 3 (n := n * a) (d := b) (by omega)
   obtain ⟨b1, b2⟩ : -1000000000000000000 ≤ rnd 3 (n * a) b ∧ rnd 3 (n * a) b ≤ 1000000000000000001 := by omega
   clear hB
   by_cases hi : ptIn n a b 3
   ·
    obtain ⟨o1, o2⟩ := pt_ok hP hi
    rw [o1, o2]
    have ha := absI_le hi.1 hi.2
    clear o1 o2 hP hi
    go_enter Try.func56, Try.ntmps56
    go_wp2_with fail
    refine (rounders_any _).mono ?_
    rintro e w1 ⟨r, rfl, hm1, hb1, hr1⟩
    obtain ⟨hc1, hz1⟩ := bcell hb1
    have hs1 : w.heap.size < w1.heap.size := by have := hb1.size; simp at this; omega
    go_wp2_with (refine wpList_lookup_imap _ rfl _ _ 121 true rfl 3 119 Try.underlying121 Try.underlying3 _ (hzr _) _ _ rfl hm1 _ rfl ?_)
    refine (valid_any _ _ _).mono ?_
    rintro e w2 ⟨rfl, hb2⟩
    obtain ⟨hc2, hz2⟩ := bcell hb2
    have hs2 : w.heap.size < w2.heap.size := by have := hb2.size; simp at this; omega
    have hs3 : w1.heap.size < w2.heap.size := by have := hb2.size; simp at this; omega
    go_wp2_with fail
    refine (round3_any _ _ _ (by omega) (by omega) (by omega) (by omega)).mono ?_
    rintro e w3 ⟨rfl, hb3⟩
    go_wp2_with (go_at_call 86; refine (size_any _ _ (by omega) (by omega)).mono ?_; rintro e w' ⟨rfl, rfl⟩)
    go_ret2
    refine ⟨rfl, ?_⟩
    (repeat' (first | (with_reducible first | exact Below.refl _ _ | assumption | exact Bw.out (by assumption) | refine bw_alloc ?_ _ | refine bw_step ?_ (by assumption) | refine Below.alloc ?_ ?_ _ | refine Below.drew ?_ | refine below_drewN ?_ _ | refine Below.setCell ?_ ?_ _ | refine below_step ?_ (by assumption) ?_ | exact Nat.le_refl _) | omega | (simp; omega) | (simp; done)))
   ·
    obtain ⟨o1, o2⟩ := pt_far hP hi
    rw [o1, o2]
    have ha := absI_gt (m := 1000000000) (by omega) hi
    clear o1 o2 hP hi
    go_enter Try.func56, Try.ntmps56
    go_wp2_with fail
    refine (rounders_any _).mono ?_
    rintro e w1 ⟨r, rfl, hm1, hb1, hr1⟩
    obtain ⟨hc1, hz1⟩ := bcell hb1
    have hs1 : w.heap.size < w1.heap.size := by have := hb1.size; simp at this; omega
    go_wp2_with (refine wpList_lookup_imap _ rfl _ _ 121 true rfl 3 119 Try.underlying121 Try.underlying3 _ (hzr _) _ _ rfl hm1 _ rfl ?_)
    refine (valid_any _ _ _).mono ?_
    rintro e w2 ⟨rfl, hb2⟩
    obtain ⟨hc2, hz2⟩ := bcell hb2
    have hs2 : w.heap.size < w2.heap.size := by have := hb2.size; simp at this; omega
    have hs3 : w1.heap.size < w2.heap.size := by have := hb2.size; simp at this; omega
    go_wp2_with fail
    refine (round3_any _ _ _ (by omega) (by omega) (by omega) (by omega)).mono ?_
    rintro e w3 ⟨rfl, hb3⟩
    go_wp2_with (go_at_call 86; refine (size_any _ _ (by omega) (by omega)).mono ?_; rintro e w' ⟨rfl, rfl⟩)
    go_ret2
    refine ⟨rfl, ?_⟩
    (repeat' (first | (with_reducible first | exact Below.refl _ _ | assumption | exact Bw.out (by assumption) | refine bw_alloc ?_ _ | refine bw_step ?_ (by assumption) | refine Below.alloc ?_ ?_ _ | refine Below.drew ?_ | refine below_drewN ?_ _ | refine Below.setCell ?_ ?_ _ | refine below_step ?_ (by assumption) ?_ | exact Nat.le_refl _) | omega | (simp; omega) | (simp; done)))
  ·
   obtain ⟨o1, o2⟩ := pt_not (n := n) (a := a) (b := b) (way := 3) (fun h => hn h.2.2)
   rw [o1, o2]
   clear o1 o2
   have hn' : n < -1000000000 ∨ (-1000000000 ≤ n ∧ 1000000000 < n) := by omega
   clear hn
   rcases hn' with hn | ⟨hn, hn2⟩
   all_goals
    go_enter Try.func56, Try.ntmps56
    go_wp2_with fail
    refine (rounders_any _).mono ?_
    rintro e w1 ⟨r, rfl, hm1, hb1, hr1⟩
    obtain ⟨hc1, hz1⟩ := bcell hb1
    have hs1 : w.heap.size < w1.heap.size := by have := hb1.size; simp at this; omega
    go_wp2_with (refine wpList_lookup_imap _ rfl _ _ 121 true rfl 3 119 Try.underlying121 Try.underlying3 _ (hzr _) _ _ rfl hm1 _ rfl ?_)
    refine (valid_any _ _ _).mono ?_
    rintro e w2 ⟨rfl, hb2⟩
    go_wp2_with fail
    go_ret2
    refine ⟨rfl, ?_⟩
    (repeat' (first | (with_reducible first | exact Below.refl _ _ | assumption | exact Bw.out (by assumption) | refine bw_alloc ?_ _ | refine bw_step ?_ (by assumption) | refine Below.alloc ?_ ?_ _ | refine Below.drew ?_ | refine below_drewN ?_ _ | refine Below.setCell ?_ ?_ _ | refine below_step ?_ (by assumption) ?_ | exact Nat.le_refl _) | omega | (simp; omega) | (simp; done)))
 ·
  obtain ⟨o1, o2⟩ := pt_not (n := n) (a := a) (b := b) (way := 3) (fun h => v1 h.1)
  rw [o1, o2]
  have e1 := vld_false v1
  clear o1 o2
  go_enter Try.func56, Try.ntmps56
  go_wp2_with fail
  refine (rounders_any _).mono ?_
  rintro e w1 ⟨r, rfl, hm1, hb1, hr1⟩
  obtain ⟨hc1, hz1⟩ := bcell hb1
  have hs1 : w.heap.size < w1.heap.size := by have := hb1.size; simp at this; omega
  go_wp2_with (refine wpList_lookup_imap _ rfl _ _ 121 true rfl 3 119 Try.underlying121 Try.underlying3 _ (hzr _) _ _ rfl hm1 _ rfl ?_)
  refine (valid_any _ _ _).mono ?_
  rintro e w2 ⟨rfl, hb2⟩
  go_wp2_with fail
  go_ret2
  refine ⟨rfl, ?_⟩
  (repeat' (first | (with_reducible first | exact Below.refl _ _ | assumption | exact Bw.out (by assumption) | refine bw_alloc ?_ _ | refine bw_step ?_ (by assumption) | refine Below.alloc ?_ ?_ _ | refine Below.drew ?_ | refine below_drewN ?_ _ | refine Below.setCell ?_ ?_ _ | refine below_step ?_ (by assumption) ?_ | exact Nat.le_refl _) | omega | (simp; omega) | (simp; done)))
set_option maxHeartbeats 800000 in
theorem Part_no (n a b way : Int) (w : World) (h : ¬ (1 ≤ way ∧ way ≤ 3)) :
  Calls Try.prog 56 #[.int .i64 n, .agg #[.int .i64 a, .int .i64 b], .int .i64 way] w fun e w' =>
   e = .returned (.tuple #[.int .i64 0, .int .i64 1]) ∧ Below w.heap.size w w' := by
 have hl := look_no h
 have hzr := zero_rounder
 clear h
 go_enter Try.func56, Try.ntmps56
 go_wp2_with fail
 refine (rounders_any _).mono ?_
 rintro e w1 ⟨r, rfl, hm1, hb1, hr1⟩
 obtain ⟨hc1, hz1⟩ := bcell hb1
 have hs1 : w.heap.size < w1.heap.size := by have := hb1.size; simp at this; omega
 go_wp2_with (refine wpList_lookup_imap _ rfl _ _ 121 true rfl 3 119 Try.underlying121 Try.underlying3 _ (hzr _) _ _ rfl hm1 _ rfl ?_)
 go_ret2
 refine ⟨rfl, ?_⟩
 (repeat' (first | (with_reducible first | exact Below.refl _ _ | assumption | exact Bw.out (by assumption) | refine bw_alloc ?_ _ | refine bw_step ?_ (by assumption) | refine Below.alloc ?_ ?_ _ | refine Below.drew ?_ | refine below_drewN ?_ _ | refine Below.setCell ?_ ?_ _ | refine below_step ?_ (by assumption) ?_ | exact Nat.le_refl _) | omega | (simp; omega) | (simp; done)))
/-- Part, for every integer, ratio and way. -/
theorem Part_any (n a b way : Int) (w : World) :
  Calls Try.prog 56 #[.int .i64 n, .agg #[.int .i64 a, .int .i64 b], .int .i64 way] w fun e w' =>
   e = .returned (.tuple #[.int .i64 (ptVal n a b way), .int .i64 (ptErr n a b way)]) ∧ Below w.heap.size w w' := by
 by_cases h : 1 ≤ way ∧ way ≤ 3
 ·
  obtain rfl | rfl | rfl : way = 1 ∨ way = 2 ∨ way = 3 := by omega
  ·
   exact Part1_any n a b w
  ·
   exact Part2_any n a b w
  ·
   exact Part3_any n a b w
 ·
  obtain ⟨o1, o2⟩ := pt_not (n := n) (a := a) (b := b) (way := way) (fun hh => h hh.2.1)
  rw [o1, o2]
  exact Part_no n a b way w h
end Go.Proofs.Ytcmodmchnokmgaa
