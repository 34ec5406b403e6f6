/-
 The walks of package ratio, fifth part: Make, Compare.
-/
import Derived.Test.YtcmodmchnokmgaaRatZ
namespace Go.Proofs.Ytcmodmchnokmgaa
set_option linter.unusedSimpArgs false
set_option linter.unusedVariables false
open Go.RowKit
/-- Beyond what Make takes. -/
def farB (k : Int) : Bool := decide (k < -1000000000000000) || decide (1000000000000000 < k)
theorem farB_false {k : Int} (h1 : -1000000000000000 ≤ k) (h2 : k ≤ 1000000000000000) : farB k = false := by simp [farB]; omega
theorem farB_true {k : Int} (h : ¬ (-1000000000000000 ≤ k ∧ k ≤ 1000000000000000)) : farB k = true := by simp [farB]; omega
set_option maxHeartbeats 400000 in
theorem far_any (k : Int) (w : World) : Calls Try.prog 135 #[.int .i64 k] w fun e w' => e = .returned (.bool (farB k)) ∧ w = w' := by
 by_cases h1 : k < -1000000000000000
 ·
  rw [farB_true (by omega)]
  go_enter Try.func135, Try.ntmps135
  go_wp2
  go_ret
  exact ⟨rfl, rfl⟩
 ·
  by_cases h2 : 1000000000000000 < k
  ·
   rw [farB_true (by omega)]
   go_enter Try.func135, Try.ntmps135
   go_wp2
   go_ret
   exact ⟨by simp [h2], rfl⟩
  ·
   rw [farB_false (by omega) (by omega)]
   go_enter Try.func135, Try.ntmps135
   go_wp2
   go_ret
   exact ⟨by first | (simp; done) | (simp; omega), rfl⟩
/-- What Make returns. -/
def mkP (n d : Int) : Prop := d ≠ 0 ∧ (-1000000000000000 ≤ n ∧ n ≤ 1000000000000000) ∧ -1000000000000000 ≤ d ∧ d ≤ 1000000000000000
instance (n d : Int) : Decidable (mkP n d) := by unfold mkP; exact inferInstance
def mkN (n d : Int) : Int := if mkP n d then (if d < 0 then fitN (-n) (-d) else fitN n d) else 0
def mkD (n d : Int) : Int := if mkP n d then (if d < 0 then fitD (-n) (-d) else fitD n d) else 0
def mkE (n d : Int) : Int := if mkP n d then (if d < 0 then fitE (-n) (-d) else fitE n d) else 1
theorem mk_not {n d : Int} (h : ¬ mkP n d) : mkN n d = 0 ∧ mkD n d = 0 ∧ mkE n d = 1 := ⟨if_neg h, if_neg h, if_neg h⟩
theorem mk_neg {n d : Int} (h : mkP n d) (hd : d < 0) : mkN n d = fitN (-n) (-d) ∧ mkD n d = fitD (-n) (-d) ∧ mkE n d = fitE (-n) (-d) := by
 unfold mkN mkD mkE; simp [h, hd]
theorem mk_pos {n d : Int} (h : mkP n d) (hd : ¬ d < 0) : mkN n d = fitN n d ∧ mkD n d = fitD n d ∧ mkE n d = fitE n d := by
 unfold mkN mkD mkE; simp [h, hd]
set_option maxHeartbeats 800000 in
theorem make_any (n d : Int) (w : World) :
  Calls Try.prog 127 #[.int .i64 n, .int .i64 d] w fun e w' => e = .returned (.tuple #[.agg #[.int .i64 (mkN n d), .int .i64 (mkD n d)], .int .i64 (mkE n d)]) ∧ Below w.heap.size w w' := by
 by_cases h0 : d = 0
 ·
  obtain ⟨o1, o2, o3⟩ := mk_not (n := n) (d := d) (fun h => h.1 h0)
  rw [o1, o2, o3]
  clear o1 o2 o3
  subst h0
  go_enter Try.func127, Try.ntmps127
  go_wp2_with fail
  go_returns
  refine ⟨rfl, ?_⟩
  (repeat' (first | (with_reducible first | exact Below.refl _ _ | assumption | exact Bw.out (by assumption) | refine bw_alloc ?_ _ | refine bw_step ?_ (by assumption) | refine Below.alloc ?_ ?_ _ | refine Below.drew ?_ | refine below_drewN ?_ _ | refine Below.setCell ?_ ?_ _ | refine below_step ?_ (by assumption) ?_ | exact Nat.le_refl _) | omega | (simp; omega) | (simp; done)))
 ·
  have hd0 : (d == 0) = false := by simpa using h0
  by_cases h1 : -1000000000000000 ≤ n ∧ n ≤ 1000000000000000
  ·
   have f1 := farB_false h1.1 h1.2
   by_cases h2 : -1000000000000000 ≤ d ∧ d ≤ 1000000000000000
   ·
    have f2 := farB_false h2.1 h2.2
    have hm : mkP n d := ⟨h0, h1, h2⟩
    obtain ⟨h11, h12⟩ := h1
    obtain ⟨h21, h22⟩ := h2
    by_cases hd : d < 0
    ·
     obtain ⟨o1, o2, o3⟩ := mk_neg hm hd
     rw [o1, o2, o3]
     clear o1 o2 o3 hm h0
     go_enter Try.func127, Try.ntmps127
     go_wp2_with (go_at_call 135; refine (far_any _ _).mono ?_; rintro e w' ⟨rfl, rfl⟩)
     refine (rat_any _ _ _ (by omega) (by omega) (by omega) (by omega)).mono ?_
     rintro e w1 ⟨rfl, hb1⟩
     obtain ⟨hc1, hz1⟩ := bcell hb1
     have hs1 : w.heap.size < w1.heap.size := by have := hb1.size; simp at this; omega
     go_wp2_with fail
     refine bodyPost_ret (v := .tuple #[.agg #[.int .i64 _, .int .i64 _], .int .i64 _]) (by simp [results, Try.results127, go_sem, hc1, hs1]) rfl ⟨rfl, ?_⟩
     (repeat' (first | (with_reducible first | exact Below.refl _ _ | assumption | exact Bw.out (by assumption) | refine bw_alloc ?_ _ | refine bw_step ?_ (by assumption) | refine Below.alloc ?_ ?_ _ | refine Below.drew ?_ | refine below_drewN ?_ _ | refine Below.setCell ?_ ?_ _ | refine below_step ?_ (by assumption) ?_ | exact Nat.le_refl _) | omega | (simp; omega) | (simp; done)))
    ·
     obtain ⟨o1, o2, o3⟩ := mk_pos hm hd
     rw [o1, o2, o3]
     clear o1 o2 o3 hm
     have h3 : 1 ≤ d := by omega
     clear h0
     go_enter Try.func127, Try.ntmps127
     go_wp2_with (go_at_call 135; refine (far_any _ _).mono ?_; rintro e w' ⟨rfl, rfl⟩)
     refine (rat_any _ _ _ (by omega) (by omega) (by omega) (by omega)).mono ?_
     rintro e w1 ⟨rfl, hb1⟩
     obtain ⟨hc1, hz1⟩ := bcell hb1
     have hs1 : w.heap.size < w1.heap.size := by have := hb1.size; simp at this; omega
     go_wp2_with fail
     refine bodyPost_ret (v := .tuple #[.agg #[.int .i64 _, .int .i64 _], .int .i64 _]) (by simp [results, Try.results127, go_sem, hc1, hs1]) rfl ⟨rfl, ?_⟩
     (repeat' (first | (with_reducible first | exact Below.refl _ _ | assumption | exact Bw.out (by assumption) | refine bw_alloc ?_ _ | refine bw_step ?_ (by assumption) | refine Below.alloc ?_ ?_ _ | refine Below.drew ?_ | refine below_drewN ?_ _ | refine Below.setCell ?_ ?_ _ | refine below_step ?_ (by assumption) ?_ | exact Nat.le_refl _) | omega | (simp; omega) | (simp; done)))
   ·
    have f2 := farB_true h2
    obtain ⟨o1, o2, o3⟩ := mk_not (n := n) (d := d) (fun h => h2 h.2.2)
    rw [o1, o2, o3]
    clear o1 o2 o3 h1 h2 h0
    go_enter Try.func127, Try.ntmps127
    go_wp2_with (go_at_call 135; refine (far_any _ _).mono ?_; rintro e w' ⟨rfl, rfl⟩)
    go_returns
    refine ⟨rfl, ?_⟩
    (repeat' (first | (with_reducible first | exact Below.refl _ _ | assumption | exact Bw.out (by assumption) | refine bw_alloc ?_ _ | refine bw_step ?_ (by assumption) | refine Below.alloc ?_ ?_ _ | refine Below.drew ?_ | refine below_drewN ?_ _ | refine Below.setCell ?_ ?_ _ | refine below_step ?_ (by assumption) ?_ | exact Nat.le_refl _) | omega | (simp; omega) | (simp; done)))
  ·
   have f1 := farB_true h1
   obtain ⟨o1, o2, o3⟩ := mk_not (n := n) (d := d) (fun h => h1 h.2.1)
   rw [o1, o2, o3]
   clear o1 o2 o3 h1 h0
   go_enter Try.func127, Try.ntmps127
   go_wp2_with (go_at_call 135; refine (far_any _ _).mono ?_; rintro e w' ⟨rfl, rfl⟩)
   go_returns
   refine ⟨rfl, ?_⟩
   (repeat' (first | (with_reducible first | exact Below.refl _ _ | assumption | exact Bw.out (by assumption) | refine bw_alloc ?_ _ | refine bw_step ?_ (by assumption) | refine Below.alloc ?_ ?_ _ | refine Below.drew ?_ | refine below_drewN ?_ _ | refine Below.setCell ?_ ?_ _ | refine below_step ?_ (by assumption) ?_ | exact Nat.le_refl _) | omega | (simp; omega) | (simp; done)))
/-- What Compare returns. -/
def cmpV (a b c d : Int) : Int := if vldP a b ∧ vldP c d then (if a * d < c * b then -1 else if c * b < a * d then 1 else 0) else 0
def cmpE (a b c d : Int) : Int := if vldP a b ∧ vldP c d then 0 else 1
theorem cmp_not {a b c d : Int} (h : ¬ (vldP a b ∧ vldP c d)) : cmpV a b c d = 0 ∧ cmpE a b c d = 1 := ⟨if_neg h, if_neg h⟩
theorem cmp_lt {a b c d : Int} (h1 : vldP a b) (h2 : vldP c d) (h : a * d < c * b) : cmpV a b c d = -1 ∧ cmpE a b c d = 0 := by unfold cmpV cmpE; simp [h1, h2, h]
theorem cmp_gt {a b c d : Int} (h1 : vldP a b) (h2 : vldP c d) (h : c * b < a * d) : cmpV a b c d = 1 ∧ cmpE a b c d = 0 := by
 unfold cmpV cmpE; have : ¬ a * d < c * b := by omega
 simp [h1, h2, h, this]
theorem cmp_eq {a b c d : Int} (h1 : vldP a b) (h2 : vldP c d) (h : a * d = c * b) : cmpV a b c d = 0 ∧ cmpE a b c d = 0 := by unfold cmpV cmpE; simp [h1, h2, h]
set_option maxHeartbeats 1600000 in
theorem ratcmp_any (a b c d : Int) (w : World) :
  Calls Try.prog 134 #[.agg #[.int .i64 a, .int .i64 b], .agg #[.int .i64 c, .int .i64 d]] w fun e w' =>
   e = .returned (.tuple #[.int .i64 (cmpV a b c d), .int .i64 (cmpE a b c d)]) ∧ Below w.heap.size w w' := by
 by_cases v1 : vldP a b
 ·
  have e1 := vld_true v1
  by_cases v2 : vldP c d
  ·
   have e2 := vld_true v2
   obtain ⟨⟨k1, k1'⟩, ⟨k2, k2'⟩, k3, k4⟩ := prod_bounds v1 v2
   clear k3 k4
   rcases Int.lt_trichotomy (a * d) (c * b) with hlt | heq | hgt
   ·
    obtain ⟨o1, o2⟩ := cmp_lt v1 v2 hlt
    rw [o1, o2]
    clear o1 o2 v1 v2
    have HH := Lib.hid hlt
    try clear heq
    have hl1 : decide (a * d < c * b) = decide ("hlt" = "hlt") := by have := HH.out; by_cases hx : a * d < c * b <;> simp [hx] <;> omega
    have hl2 : decide (c * b < a * d) = decide ("hlt" = "hgt") := by have := HH.out; by_cases hx : c * b < a * d <;> simp [hx] <;> omega
    simp only [String.reduceEq, decide_true, decide_false] at hl1 hl2
    go_enter Try.func134, Try.ntmps134
    go_wp2_with fail
    refine (valid_any _ _ _).mono ?_
    rintro e w1 ⟨rfl, hb1⟩
    obtain ⟨hc1, hz1⟩ := bcell hb1
    have hs1 : w.heap.size + 1 < w1.heap.size := by have := hb1.size; simp at this; omega
    go_wp2_with fail
    refine (valid_any _ _ _).mono ?_
    rintro e w2 ⟨rfl, hb2⟩
    obtain ⟨hc2, hz2⟩ := bcell hb2
    have hs2 : w.heap.size + 1 < w2.heap.size := by have := hb2.size; omega
    have hs3 : w.heap.size < w1.heap.size := by omega
    go_wp2_with fail
    go_quiet (fail)
    go_wp2_with fail
    go_ret2
    refine ⟨rfl, ?_⟩
    (repeat' (first | (with_reducible first | exact Below.refl _ _ | assumption | exact Bw.out (by assumption) | refine bw_alloc ?_ _ | refine bw_step ?_ (by assumption) | refine Below.alloc ?_ ?_ _ | refine Below.drew ?_ | refine below_drewN ?_ _ | refine Below.setCell ?_ ?_ _ | refine below_step ?_ (by assumption) ?_ | exact Nat.le_refl _) | omega | (simp; omega) | (simp; done)))
   ·
    obtain ⟨o1, o2⟩ := cmp_eq v1 v2 heq
    rw [o1, o2]
    clear o1 o2 v1 v2
    have HH := Lib.hid heq
    try clear heq
    have hl1 : decide (a * d < c * b) = decide ("heq" = "hlt") := by have := HH.out; by_cases hx : a * d < c * b <;> simp [hx] <;> omega
    have hl2 : decide (c * b < a * d) = decide ("heq" = "hgt") := by have := HH.out; by_cases hx : c * b < a * d <;> simp [hx] <;> omega
    simp only [String.reduceEq, decide_true, decide_false] at hl1 hl2
    go_enter Try.func134, Try.ntmps134
    go_wp2_with fail
    refine (valid_any _ _ _).mono ?_
    rintro e w1 ⟨rfl, hb1⟩
    obtain ⟨hc1, hz1⟩ := bcell hb1
    have hs1 : w.heap.size + 1 < w1.heap.size := by have := hb1.size; simp at this; omega
    go_wp2_with fail
    refine (valid_any _ _ _).mono ?_
    rintro e w2 ⟨rfl, hb2⟩
    obtain ⟨hc2, hz2⟩ := bcell hb2
    have hs2 : w.heap.size + 1 < w2.heap.size := by have := hb2.size; omega
    have hs3 : w.heap.size < w1.heap.size := by omega
    go_wp2_with fail
    go_quiet (fail)
    go_wp2_with fail
    go_ret2
    refine ⟨rfl, ?_⟩
    (repeat' (first | (with_reducible first | exact Below.refl _ _ | assumption | exact Bw.out (by assumption) | refine bw_alloc ?_ _ | refine bw_step ?_ (by assumption) | refine Below.alloc ?_ ?_ _ | refine Below.drew ?_ | refine below_drewN ?_ _ | refine Below.setCell ?_ ?_ _ | refine below_step ?_ (by assumption) ?_ | exact Nat.le_refl _) | omega | (simp; omega) | (simp; done)))
   ·
    obtain ⟨o1, o2⟩ := cmp_gt v1 v2 hgt
    rw [o1, o2]
    clear o1 o2 v1 v2
    have HH := Lib.hid hgt
    try clear heq
    have hl1 : decide (a * d < c * b) = decide ("hgt" = "hlt") := by have := HH.out; by_cases hx : a * d < c * b <;> simp [hx] <;> omega
    have hl2 : decide (c * b < a * d) = decide ("hgt" = "hgt") := by have := HH.out; by_cases hx : c * b < a * d <;> simp [hx] <;> omega
    simp only [String.reduceEq, decide_true, decide_false] at hl1 hl2
    go_enter Try.func134, Try.ntmps134
    go_wp2_with fail
    refine (valid_any _ _ _).mono ?_
    rintro e w1 ⟨rfl, hb1⟩
    obtain ⟨hc1, hz1⟩ := bcell hb1
    have hs1 : w.heap.size + 1 < w1.heap.size := by have := hb1.size; simp at this; omega
    go_wp2_with fail
    refine (valid_any _ _ _).mono ?_
    rintro e w2 ⟨rfl, hb2⟩
    obtain ⟨hc2, hz2⟩ := bcell hb2
    have hs2 : w.heap.size + 1 < w2.heap.size := by have := hb2.size; omega
    have hs3 : w.heap.size < w1.heap.size := by omega
    go_wp2_with fail
    go_quiet (fail)
    go_wp2_with fail
    go_ret2
    refine ⟨rfl, ?_⟩
    (repeat' (first | (with_reducible first | exact Below.refl _ _ | assumption | exact Bw.out (by assumption) | refine bw_alloc ?_ _ | refine bw_step ?_ (by assumption) | refine Below.alloc ?_ ?_ _ | refine Below.drew ?_ | refine below_drewN ?_ _ | refine Below.setCell ?_ ?_ _ | refine below_step ?_ (by assumption) ?_ | exact Nat.le_refl _) | omega | (simp; omega) | (simp; done)))
  ·
   have e2 := vld_false v2
   obtain ⟨o1, o2⟩ := cmp_not (fun h => v2 (And.right h) : ¬ (vldP a b ∧ vldP c d))
   rw [o1, o2]
   clear o1 o2
   go_enter Try.func134, Try.ntmps134
   go_wp2_with fail
   refine (valid_any _ _ _).mono ?_
   rintro e w1 ⟨rfl, hb1⟩
   obtain ⟨hc1, hz1⟩ := bcell hb1
   have hs1 : w.heap.size + 1 < w1.heap.size := by have := hb1.size; simp at this; omega
   go_wp2_with fail
   refine (valid_any _ _ _).mono ?_
   rintro e w2 ⟨rfl, hb2⟩
   go_wp2_with fail
   go_ret2
   refine ⟨rfl, ?_⟩
   (repeat' (first | (with_reducible first | exact Below.refl _ _ | assumption | exact Bw.out (by assumption) | refine bw_alloc ?_ _ | refine bw_step ?_ (by assumption) | refine Below.alloc ?_ ?_ _ | refine Below.drew ?_ | refine below_drewN ?_ _ | refine Below.setCell ?_ ?_ _ | refine below_step ?_ (by assumption) ?_ | exact Nat.le_refl _) | omega | (simp; omega) | (simp; done)))
 ·
  have e1 := vld_false v1
  obtain ⟨o1, o2⟩ := cmp_not (fun h => v1 (And.left h) : ¬ (vldP a b ∧ vldP c d))
  rw [o1, o2]
  clear o1 o2
  go_enter Try.func134, Try.ntmps134
  go_wp2_with fail
  refine (valid_any _ _ _).mono ?_
  rintro e w1 ⟨rfl, hb1⟩
  go_wp2_with fail
  go_ret2
  refine ⟨rfl, ?_⟩
  (repeat' (first | (with_reducible first | exact Below.refl _ _ | assumption | exact Bw.out (by assumption) | refine bw_alloc ?_ _ | refine bw_step ?_ (by assumption) | refine Below.alloc ?_ ?_ _ | refine Below.drew ?_ | refine below_drewN ?_ _ | refine Below.setCell ?_ ?_ _ | refine below_step ?_ (by assumption) ?_ | exact Nat.le_refl _) | omega | (simp; omega) | (simp; done)))
end Go.Proofs.Ytcmodmchnokmgaa
