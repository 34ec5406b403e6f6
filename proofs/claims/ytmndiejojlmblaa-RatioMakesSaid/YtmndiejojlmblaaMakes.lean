/-
  RatioMakes: what Make returns is valid, and the same for the same fraction with any factor; a valid ratio is made of its own numbers.
  No condition: for every input.
-/
import Derived.Test.YtmndiejojlmblaaRatH
import Derived.Test.YtmndiejojlmblaaLaw
namespace Go.Proofs.Ytmndiejojlmblaa
set_option linter.unusedSimpArgs false
set_option linter.unusedVariables false
open Go.ChangeShapes Go.WideShapes Go.ChangeAt Go.RowKit

theorem mk_vld {n d : Int} (h : vldP n d) : mkN n d = n ∧ mkD n d = d ∧ mkE n d = 0 := by
  obtain ⟨f1, f2, f3⟩ := fit_vld h
  obtain ⟨h1, h2, h3, h4, _⟩ := h
  obtain ⟨o1, o2, o3⟩ := mk_pos (n := n) (d := d) ⟨by omega, by omega, by omega, by omega⟩ (by omega)
  exact ⟨o1.trans f1, o2.trans f2, o3.trans f3⟩

theorem mk_scaled {n d b : Int} (hn : -2147483648 ≤ n ∧ n ≤ 2147483647) (hd : -2147483648 ≤ d ∧ d ≤ 2147483647) (hb : -32768 ≤ b ∧ b ≤ 32767) (hd0 : d ≠ 0) (hb0 : b ≠ 0) :
    mkN (n * b) (d * b) = mkN n d ∧ mkD (n * b) (d * b) = mkD n d ∧ mkE (n * b) (d * b) = mkE n d := by
  obtain ⟨p1, p2⟩ := mul_le_1e15 (a := n) (b := b) (x := 2147483648) (y := 32768) (by omega) (by omega) (by omega) (by omega)
  obtain ⟨q1, q2⟩ := mul_le_1e15 (a := d) (b := b) (x := 2147483648) (y := 32768) (by omega) (by omega) (by omega) (by omega)
  have hdb : d * b ≠ 0 := Int.mul_ne_zero hd0 hb0
  have hP : mkP n d := ⟨hd0, by omega, by omega, by omega⟩
  have hQ : mkP (n * b) (d * b) := ⟨hdb, by omega, by omega, by omega⟩
  have e1 : n * b * d = n * (d * b) := by rw [Int.mul_assoc, Int.mul_comm b d]
  by_cases s1 : d < 0
  · obtain ⟨o1, o2, o3⟩ := mk_neg hP s1
    by_cases s2 : d * b < 0
    · obtain ⟨r1, r2, r3⟩ := mk_neg hQ s2
      obtain ⟨k1, k2, k3⟩ := fit_same (n := -(n * b)) (d := -(d * b)) (n' := -n) (d' := -d) (by omega) (by omega) (by simp only [Int.neg_mul, Int.mul_neg]; omega)
      exact ⟨by rw [r1, o1, k1], by rw [r2, o2, k2], by rw [r3, o3, k3]⟩
    · obtain ⟨r1, r2, r3⟩ := mk_pos hQ s2
      obtain ⟨k1, k2, k3⟩ := fit_same (n := n * b) (d := d * b) (n' := -n) (d' := -d) (by omega) (by omega) (by simp only [Int.neg_mul, Int.mul_neg]; omega)
      exact ⟨by rw [r1, o1, k1], by rw [r2, o2, k2], by rw [r3, o3, k3]⟩
  · obtain ⟨o1, o2, o3⟩ := mk_pos hP s1
    by_cases s2 : d * b < 0
    · obtain ⟨r1, r2, r3⟩ := mk_neg hQ s2
      obtain ⟨k1, k2, k3⟩ := fit_same (n := -(n * b)) (d := -(d * b)) (n' := n) (d' := d) (by omega) (by omega) (by simp only [Int.neg_mul, Int.mul_neg]; omega)
      exact ⟨by rw [r1, o1, k1], by rw [r2, o2, k2], by rw [r3, o3, k3]⟩
    · obtain ⟨r1, r2, r3⟩ := mk_pos hQ s2
      obtain ⟨k1, k2, k3⟩ := fit_same (n := n * b) (d := d * b) (n' := n) (d' := d) (by omega) (by omega) e1
      exact ⟨by rw [r1, o1, k1], by rw [r2, o2, k2], by rw [r3, o3, k3]⟩

theorem mk_good {n d : Int} (hn : -2147483648 ≤ n ∧ n ≤ 2147483647) (hd : -2147483648 ≤ d ∧ d ≤ 2147483647) (hd0 : d ≠ 0) :
    (mkE n d = 0 ∧ vldP (mkN n d) (mkD n d) ∧ mkN n d * d = mkD n d * n) ∨ mkE n d = 3 := by
  have hP : mkP n d := ⟨hd0, by omega, by omega, by omega⟩
  by_cases s1 : d < 0
  · obtain ⟨o1, o2, o3⟩ := mk_neg hP s1
    rcases fitE_or (-n) (-d) with h | h
    · obtain ⟨g1, g2, _⟩ := fit_ok (n := -n) (d := -d) (by omega) h
      refine Or.inl ⟨o3.trans h, by rw [o1, o2]; exact g1, ?_⟩
      rw [o1, o2]
      simp only [Int.mul_neg] at g2
      omega
    · exact Or.inr (o3.trans h)
  · obtain ⟨o1, o2, o3⟩ := mk_pos hP s1
    rcases fitE_or n d with h | h
    · obtain ⟨g1, g2, _⟩ := fit_ok (n := n) (d := d) (by omega) h
      exact Or.inl ⟨o3.trans h, by rw [o1, o2]; exact g1, by rw [o1, o2]; exact g2⟩
    · exact Or.inr (o3.trans h)

attribute [local go_sem ↓] eql_rat neq_rat

set_option maxRecDepth 100000 in
set_option maxHeartbeats 4000000 in
theorem makes_walk (n d b a0 a1 : Int) (wn : (Lit.int .i32 n).wf = true) (wd : (Lit.int .i32 d).wf = true) (wb : (Lit.int .i16 b).wf = true) (_wa0 : (Lit.int .i64 a0).wf = true) (_wa1 : (Lit.int .i64 a1).wf = true) (w : World) :
    Calls Try.prog 3 #[.int .i32 n, .int .i32 d, .int .i16 b, .agg #[.int .i64 a0, .int .i64 a1]] w fun e w' => e = .returned (.bool true) ∧ Below w.heap.size w w' := by
  obtain ⟨n1, n2⟩ := bd_i32 wn
  obtain ⟨d1, d2⟩ := bd_i32 wd
  obtain ⟨b1, b2⟩ := bd_i16 wb
  clear wn wd wb _wa0 _wa1
  by_cases hv : vld a0 a1 = true
  · obtain ⟨g1, g2, g3⟩ := mk_vld (of_decide_eq_true hv)
    by_cases hd0 : d = 0
    · subst hd0
      go_enter Try.func3, Try.ntmps3
      go_wp2_with fail
      refine (head_any _).mono ?_
      rintro e w1 ⟨rfl, hb1⟩
      obtain ⟨hc1, hz1⟩ := bcell hb1
      have hs1 : w.heap.size < w1.heap.size := by have := hb1.size; (try simp at this); omega
      go_wp2_with fail
      refine (R_valid_any _ _ _).mono ?_
      rintro e w2 ⟨rfl, hb2⟩
      obtain ⟨hc2, hz2⟩ := bcell hb2
      have hs2 : w.heap.size < w2.heap.size := by have := hb2.size; (try simp at this); omega
      go_wp2_with fail
      refine (make_any _ _ _).mono ?_
      rintro e w3 ⟨rfl, hb3⟩
      obtain ⟨hc3, hz3⟩ := bcell hb3
      have hs3 : w.heap.size < w3.heap.size := by have := hb3.size; (try simp at this); omega
      go_wp2_with fail
      go_ret
      refine ⟨rfl, ?_⟩
      (repeat' (first | (with_reducible exact Below.refl _ _) | (with_reducible assumption) | (with_reducible exact Bw.out (by with_reducible assumption)) | (with_reducible refine bw_alloc ?_ _) | (with_reducible refine bw_step ?_ (by with_reducible assumption)) | (with_reducible refine Below.alloc ?_ ?_ _) | (with_reducible refine Below.drew ?_) | (with_reducible refine below_drewN ?_ _) | (with_reducible refine Below.setCell ?_ ?_ _) | (with_reducible refine below_step ?_ (by with_reducible assumption) ?_) | (with_reducible exact Nat.le_refl _) | omega | (simp; omega) | (simp; done)))
    · have hd0' : (d == 0) = false := by simpa using hd0
      by_cases hb0 : b = 0
      · subst hb0
        go_enter Try.func3, Try.ntmps3
        go_wp2_with fail
        refine (head_any _).mono ?_
        rintro e w1 ⟨rfl, hb1⟩
        obtain ⟨hc1, hz1⟩ := bcell hb1
        have hs1 : w.heap.size < w1.heap.size := by have := hb1.size; (try simp at this); omega
        go_wp2_with fail
        refine (R_valid_any _ _ _).mono ?_
        rintro e w2 ⟨rfl, hb2⟩
        obtain ⟨hc2, hz2⟩ := bcell hb2
        have hs2 : w.heap.size < w2.heap.size := by have := hb2.size; (try simp at this); omega
        go_wp2_with fail
        refine (make_any _ _ _).mono ?_
        rintro e w3 ⟨rfl, hb3⟩
        obtain ⟨hc3, hz3⟩ := bcell hb3
        have hs3 : w.heap.size < w3.heap.size := by have := hb3.size; (try simp at this); omega
        go_wp2_with fail
        go_ret
        refine ⟨rfl, ?_⟩
        (repeat' (first | (with_reducible exact Below.refl _ _) | (with_reducible assumption) | (with_reducible exact Bw.out (by with_reducible assumption)) | (with_reducible refine bw_alloc ?_ _) | (with_reducible refine bw_step ?_ (by with_reducible assumption)) | (with_reducible refine Below.alloc ?_ ?_ _) | (with_reducible refine Below.drew ?_) | (with_reducible refine below_drewN ?_ _) | (with_reducible refine Below.setCell ?_ ?_ _) | (with_reducible refine below_step ?_ (by with_reducible assumption) ?_) | (with_reducible exact Nat.le_refl _) | omega | (simp; omega) | (simp; done)))
      · have hb0' : (b == 0) = false := by simpa using hb0
        obtain ⟨k1, k2, k3⟩ := mk_scaled ⟨n1, n2⟩ ⟨d1, d2⟩ ⟨b1, b2⟩ hd0 hb0
        obtain ⟨p1, p2⟩ := mul_le_1e15 (a := n) (b := b) (x := 2147483648) (y := 32768) (by omega) (by omega) (by omega) (by omega)
        obtain ⟨q1, q2⟩ := mul_le_1e15 (a := d) (b := b) (x := 2147483648) (y := 32768) (by omega) (by omega) (by omega) (by omega)
        rcases mk_good ⟨n1, n2⟩ ⟨d1, d2⟩ hd0 with ⟨e0, e1, e2⟩ | e3
        · have e1' := vld_true e1
          obtain ⟨v1, v2, v3, v4, _⟩ := e1
          obtain ⟨s1, s2⟩ := mul_le_1e15 (a := mkN n d) (b := d) (x := 1000000000) (y := 2147483648) (by omega) (by omega) (by omega) (by omega)
          obtain ⟨t1, t2⟩ := mul_le_1e15 (a := mkD n d) (b := n) (x := 1000000) (y := 2147483648) (by omega) (by omega) (by omega) (by omega)
          have e2' : (mkN n d * d == mkD n d * n) = true := by simpa using e2
          clear e2 hd0 hb0
          go_enter Try.func3, Try.ntmps3
          go_wp2_with fail
          refine (head_any _).mono ?_
          rintro e w1 ⟨rfl, hb1⟩
          obtain ⟨hc1, hz1⟩ := bcell hb1
          have hs1 : w.heap.size < w1.heap.size := by have := hb1.size; (try simp at this); omega
          go_wp2_with fail
          refine (R_valid_any _ _ _).mono ?_
          rintro e w2 ⟨rfl, hb2⟩
          obtain ⟨hc2, hz2⟩ := bcell hb2
          have hs2 : w.heap.size < w2.heap.size := by have := hb2.size; (try simp at this); omega
          go_wp2_with fail
          refine (make_any _ _ _).mono ?_
          rintro e w3 ⟨rfl, hb3⟩
          obtain ⟨hc3, hz3⟩ := bcell hb3
          have hs3 : w.heap.size < w3.heap.size := by have := hb3.size; (try simp at this); omega
          go_wp2_with fail
          refine (make_any _ _ _).mono ?_
          rintro e w4 ⟨rfl, hb4⟩
          go_wp2_with fail
          refine (make_any _ _ _).mono ?_
          rintro e w5 ⟨rfl, hb5⟩
          have R4 : Row w5 w4.heap.size [.int .i64 (mkN n d), .int .i64 (mkD n d)] := by (repeat' (first | (with_reducible assumption) | (with_reducible refine Row.new' _ _ _ (by first | rfl | (simp; done) | omega)) | (with_reducible refine Row.alloc ?_ _) | (with_reducible refine Row.drew ?_) | (with_reducible refine Row.drewN ?_ _) | (with_reducible refine Row.step ?_ (by with_reducible assumption))))
          have c40 := R4.cell 0 rfl
          have c41 := R4.cell 1 rfl
          have l4 := R4.lt
          go_wp2_with fail
          refine (R_valid_any _ _ _).mono ?_
          rintro e w6 ⟨rfl, hb6⟩
          have R6 : Row w6 w4.heap.size [.int .i64 (mkN n d), .int .i64 (mkD n d)] := by (repeat' (first | (with_reducible assumption) | (with_reducible refine Row.new' _ _ _ (by first | rfl | (simp; done) | omega)) | (with_reducible refine Row.alloc ?_ _) | (with_reducible refine Row.drew ?_) | (with_reducible refine Row.drewN ?_ _) | (with_reducible refine Row.step ?_ (by with_reducible assumption))))
          have c60 := R6.cell 0 rfl
          have c61 := R6.cell 1 rfl
          go_wp2_with fail
          go_ret
          refine ⟨rfl, ?_⟩
          (repeat' (first | (with_reducible exact Below.refl _ _) | (with_reducible assumption) | (with_reducible exact Bw.out (by with_reducible assumption)) | (with_reducible refine bw_alloc ?_ _) | (with_reducible refine bw_step ?_ (by with_reducible assumption)) | (with_reducible refine Below.alloc ?_ ?_ _) | (with_reducible refine Below.drew ?_) | (with_reducible refine below_drewN ?_ _) | (with_reducible refine Below.setCell ?_ ?_ _) | (with_reducible refine below_step ?_ (by with_reducible assumption) ?_) | (with_reducible exact Nat.le_refl _) | omega | (simp; omega) | (simp; done)))
        · clear hd0 hb0
          go_enter Try.func3, Try.ntmps3
          go_wp2_with fail
          refine (head_any _).mono ?_
          rintro e w1 ⟨rfl, hb1⟩
          obtain ⟨hc1, hz1⟩ := bcell hb1
          have hs1 : w.heap.size < w1.heap.size := by have := hb1.size; (try simp at this); omega
          go_wp2_with fail
          refine (R_valid_any _ _ _).mono ?_
          rintro e w2 ⟨rfl, hb2⟩
          obtain ⟨hc2, hz2⟩ := bcell hb2
          have hs2 : w.heap.size < w2.heap.size := by have := hb2.size; (try simp at this); omega
          go_wp2_with fail
          refine (make_any _ _ _).mono ?_
          rintro e w3 ⟨rfl, hb3⟩
          obtain ⟨hc3, hz3⟩ := bcell hb3
          have hs3 : w.heap.size < w3.heap.size := by have := hb3.size; (try simp at this); omega
          go_wp2_with fail
          refine (make_any _ _ _).mono ?_
          rintro e w4 ⟨rfl, hb4⟩
          go_wp2_with fail
          refine (make_any _ _ _).mono ?_
          rintro e w5 ⟨rfl, hb5⟩
          have R4 : Row w5 w4.heap.size [.int .i64 (mkN n d), .int .i64 (mkD n d)] := by (repeat' (first | (with_reducible assumption) | (with_reducible refine Row.new' _ _ _ (by first | rfl | (simp; done) | omega)) | (with_reducible refine Row.alloc ?_ _) | (with_reducible refine Row.drew ?_) | (with_reducible refine Row.drewN ?_ _) | (with_reducible refine Row.step ?_ (by with_reducible assumption))))
          have c40 := R4.cell 0 rfl
          have c41 := R4.cell 1 rfl
          have l4 := R4.lt
          go_wp2_with fail
          go_ret
          refine ⟨rfl, ?_⟩
          (repeat' (first | (with_reducible exact Below.refl _ _) | (with_reducible assumption) | (with_reducible exact Bw.out (by with_reducible assumption)) | (with_reducible refine bw_alloc ?_ _) | (with_reducible refine bw_step ?_ (by with_reducible assumption)) | (with_reducible refine Below.alloc ?_ ?_ _) | (with_reducible refine Below.drew ?_) | (with_reducible refine below_drewN ?_ _) | (with_reducible refine Below.setCell ?_ ?_ _) | (with_reducible refine below_step ?_ (by with_reducible assumption) ?_) | (with_reducible exact Nat.le_refl _) | omega | (simp; omega) | (simp; done)))
  · have hv' : vld a0 a1 = false := by simpa using hv
    clear hv
    by_cases hd0 : d = 0
    · subst hd0
      go_enter Try.func3, Try.ntmps3
      go_wp2_with fail
      refine (head_any _).mono ?_
      rintro e w1 ⟨rfl, hb1⟩
      obtain ⟨hc1, hz1⟩ := bcell hb1
      have hs1 : w.heap.size < w1.heap.size := by have := hb1.size; (try simp at this); omega
      go_wp2_with fail
      refine (R_valid_any _ _ _).mono ?_
      rintro e w2 ⟨rfl, hb2⟩
      obtain ⟨hc2, hz2⟩ := bcell hb2
      have hs2 : w.heap.size < w2.heap.size := by have := hb2.size; (try simp at this); omega
      go_wp2_with fail
      go_ret
      refine ⟨rfl, ?_⟩
      (repeat' (first | (with_reducible exact Below.refl _ _) | (with_reducible assumption) | (with_reducible exact Bw.out (by with_reducible assumption)) | (with_reducible refine bw_alloc ?_ _) | (with_reducible refine bw_step ?_ (by with_reducible assumption)) | (with_reducible refine Below.alloc ?_ ?_ _) | (with_reducible refine Below.drew ?_) | (with_reducible refine below_drewN ?_ _) | (with_reducible refine Below.setCell ?_ ?_ _) | (with_reducible refine below_step ?_ (by with_reducible assumption) ?_) | (with_reducible exact Nat.le_refl _) | omega | (simp; omega) | (simp; done)))
    · have hd0' : (d == 0) = false := by simpa using hd0
      by_cases hb0 : b = 0
      · subst hb0
        go_enter Try.func3, Try.ntmps3
        go_wp2_with fail
        refine (head_any _).mono ?_
        rintro e w1 ⟨rfl, hb1⟩
        obtain ⟨hc1, hz1⟩ := bcell hb1
        have hs1 : w.heap.size < w1.heap.size := by have := hb1.size; (try simp at this); omega
        go_wp2_with fail
        refine (R_valid_any _ _ _).mono ?_
        rintro e w2 ⟨rfl, hb2⟩
        obtain ⟨hc2, hz2⟩ := bcell hb2
        have hs2 : w.heap.size < w2.heap.size := by have := hb2.size; (try simp at this); omega
        go_wp2_with fail
        go_ret
        refine ⟨rfl, ?_⟩
        (repeat' (first | (with_reducible exact Below.refl _ _) | (with_reducible assumption) | (with_reducible exact Bw.out (by with_reducible assumption)) | (with_reducible refine bw_alloc ?_ _) | (with_reducible refine bw_step ?_ (by with_reducible assumption)) | (with_reducible refine Below.alloc ?_ ?_ _) | (with_reducible refine Below.drew ?_) | (with_reducible refine below_drewN ?_ _) | (with_reducible refine Below.setCell ?_ ?_ _) | (with_reducible refine below_step ?_ (by with_reducible assumption) ?_) | (with_reducible exact Nat.le_refl _) | omega | (simp; omega) | (simp; done)))
      · have hb0' : (b == 0) = false := by simpa using hb0
        obtain ⟨k1, k2, k3⟩ := mk_scaled ⟨n1, n2⟩ ⟨d1, d2⟩ ⟨b1, b2⟩ hd0 hb0
        obtain ⟨p1, p2⟩ := mul_le_1e15 (a := n) (b := b) (x := 2147483648) (y := 32768) (by omega) (by omega) (by omega) (by omega)
        obtain ⟨q1, q2⟩ := mul_le_1e15 (a := d) (b := b) (x := 2147483648) (y := 32768) (by omega) (by omega) (by omega) (by omega)
        rcases mk_good ⟨n1, n2⟩ ⟨d1, d2⟩ hd0 with ⟨e0, e1, e2⟩ | e3
        · have e1' := vld_true e1
          obtain ⟨v1, v2, v3, v4, _⟩ := e1
          obtain ⟨s1, s2⟩ := mul_le_1e15 (a := mkN n d) (b := d) (x := 1000000000) (y := 2147483648) (by omega) (by omega) (by omega) (by omega)
          obtain ⟨t1, t2⟩ := mul_le_1e15 (a := mkD n d) (b := n) (x := 1000000) (y := 2147483648) (by omega) (by omega) (by omega) (by omega)
          have e2' : (mkN n d * d == mkD n d * n) = true := by simpa using e2
          clear e2 hd0 hb0
          go_enter Try.func3, Try.ntmps3
          go_wp2_with fail
          refine (head_any _).mono ?_
          rintro e w1 ⟨rfl, hb1⟩
          obtain ⟨hc1, hz1⟩ := bcell hb1
          have hs1 : w.heap.size < w1.heap.size := by have := hb1.size; (try simp at this); omega
          go_wp2_with fail
          refine (R_valid_any _ _ _).mono ?_
          rintro e w2 ⟨rfl, hb2⟩
          obtain ⟨hc2, hz2⟩ := bcell hb2
          have hs2 : w.heap.size < w2.heap.size := by have := hb2.size; (try simp at this); omega
          go_wp2_with fail
          refine (make_any _ _ _).mono ?_
          rintro e w4 ⟨rfl, hb4⟩
          go_wp2_with fail
          refine (make_any _ _ _).mono ?_
          rintro e w5 ⟨rfl, hb5⟩
          have R4 : Row w5 w4.heap.size [.int .i64 (mkN n d), .int .i64 (mkD n d)] := by (repeat' (first | (with_reducible assumption) | (with_reducible refine Row.new' _ _ _ (by first | rfl | (simp; done) | omega)) | (with_reducible refine Row.alloc ?_ _) | (with_reducible refine Row.drew ?_) | (with_reducible refine Row.drewN ?_ _) | (with_reducible refine Row.step ?_ (by with_reducible assumption))))
          have c40 := R4.cell 0 rfl
          have c41 := R4.cell 1 rfl
          have l4 := R4.lt
          go_wp2_with fail
          refine (R_valid_any _ _ _).mono ?_
          rintro e w6 ⟨rfl, hb6⟩
          have R6 : Row w6 w4.heap.size [.int .i64 (mkN n d), .int .i64 (mkD n d)] := by (repeat' (first | (with_reducible assumption) | (with_reducible refine Row.new' _ _ _ (by first | rfl | (simp; done) | omega)) | (with_reducible refine Row.alloc ?_ _) | (with_reducible refine Row.drew ?_) | (with_reducible refine Row.drewN ?_ _) | (with_reducible refine Row.step ?_ (by with_reducible assumption))))
          have c60 := R6.cell 0 rfl
          have c61 := R6.cell 1 rfl
          go_wp2_with fail
          go_ret
          refine ⟨rfl, ?_⟩
          (repeat' (first | (with_reducible exact Below.refl _ _) | (with_reducible assumption) | (with_reducible exact Bw.out (by with_reducible assumption)) | (with_reducible refine bw_alloc ?_ _) | (with_reducible refine bw_step ?_ (by with_reducible assumption)) | (with_reducible refine Below.alloc ?_ ?_ _) | (with_reducible refine Below.drew ?_) | (with_reducible refine below_drewN ?_ _) | (with_reducible refine Below.setCell ?_ ?_ _) | (with_reducible refine below_step ?_ (by with_reducible assumption) ?_) | (with_reducible exact Nat.le_refl _) | omega | (simp; omega) | (simp; done)))
        · clear hd0 hb0
          go_enter Try.func3, Try.ntmps3
          go_wp2_with fail
          refine (head_any _).mono ?_
          rintro e w1 ⟨rfl, hb1⟩
          obtain ⟨hc1, hz1⟩ := bcell hb1
          have hs1 : w.heap.size < w1.heap.size := by have := hb1.size; (try simp at this); omega
          go_wp2_with fail
          refine (R_valid_any _ _ _).mono ?_
          rintro e w2 ⟨rfl, hb2⟩
          obtain ⟨hc2, hz2⟩ := bcell hb2
          have hs2 : w.heap.size < w2.heap.size := by have := hb2.size; (try simp at this); omega
          go_wp2_with fail
          refine (make_any _ _ _).mono ?_
          rintro e w4 ⟨rfl, hb4⟩
          go_wp2_with fail
          refine (make_any _ _ _).mono ?_
          rintro e w5 ⟨rfl, hb5⟩
          have R4 : Row w5 w4.heap.size [.int .i64 (mkN n d), .int .i64 (mkD n d)] := by (repeat' (first | (with_reducible assumption) | (with_reducible refine Row.new' _ _ _ (by first | rfl | (simp; done) | omega)) | (with_reducible refine Row.alloc ?_ _) | (with_reducible refine Row.drew ?_) | (with_reducible refine Row.drewN ?_ _) | (with_reducible refine Row.step ?_ (by with_reducible assumption))))
          have c40 := R4.cell 0 rfl
          have c41 := R4.cell 1 rfl
          have l4 := R4.lt
          go_wp2_with fail
          go_ret
          refine ⟨rfl, ?_⟩
          (repeat' (first | (with_reducible exact Below.refl _ _) | (with_reducible assumption) | (with_reducible exact Bw.out (by with_reducible assumption)) | (with_reducible refine bw_alloc ?_ _) | (with_reducible refine bw_step ?_ (by with_reducible assumption)) | (with_reducible refine Below.alloc ?_ ?_ _) | (with_reducible refine Below.drew ?_) | (with_reducible refine below_drewN ?_ _) | (with_reducible refine Below.setCell ?_ ?_ _) | (with_reducible refine below_step ?_ (by with_reducible assumption) ?_) | (with_reducible exact Nat.le_refl _) | omega | (simp; omega) | (simp; done)))


set_option maxRecDepth 100000 in
theorem ratioMakes_lifted (os : Os) (started : os.Started) (H : Type) (enc : TypeId × Value → H) :
    ReturnsInHanded {} Try.checked os 3 .any (Rows.ratioMakesSpec.pre6 enc Try.prog Try.f3 Rows.ratioMakesRow.domain false) (Rows.ratioMakesSpec.post enc Try.prog Try.f3 false true false false) := by
  refine returnsInHanded_of_change (C := Try.checked) own started (by kernel_rfl) Try.func3
    (ChangeSpec.witness6 (enc := enc) (C := Try.checked) false ⟨#[], #[.int .i32 0, .int .i32 0, .int .i16 0, .agg #[.int .i64 0, .int .i64 0]], []⟩ 8 (by kernel_rfl) (by kernel_rfl) (by kernel_rfl) (by kernel_rfl)) ?_
  intro W base args ds gs before hval0 hW _ _
  have hval : ∀ (j : Nat) t v, Try.f3.params[j]? = some t → args[j]? = some v → Value.okWide Try.prog W .any base t v := hval0
  have hW' := hW
  obtain ⟨p, q, hA0, hV, rfl, hfz, hnd⟩ := hW
  obtain ⟨rfl, rfl⟩ := trodVars_none hV
  have hA : DataW.TrodAll enc Try.prog W 0 (fun _ => true) true Try.f3.params.toList args.toList ds p := hA0
  rw [Try.params3] at hA hval
  obtain ⟨v0, vs0, d0, ds0, p0, q0, hargs, rfl, rfl, h0, r0⟩ := trodAll_cons hA
  obtain ⟨v1, vs1, d1, ds1, p1, q1, rfl, rfl, rfl, h1, r1⟩ := trodAll_cons r0
  obtain ⟨v2, vs2, d2, ds2, p2, q2, rfl, rfl, rfl, h2, r2⟩ := trodAll_cons r1
  obtain ⟨v3, vs3, d3, ds3, p3, q3, rfl, rfl, rfl, h3, r3⟩ := trodAll_cons r2
  obtain ⟨rfl, rfl, rfl⟩ := trodAll_nil r3
  obtain rfl : args = #[v0, v1, v2, v3] := by cases args; simp_all
  obtain ⟨n, rfl, rfl, rfl, wn⟩ := open_int Try.underlying21 (hval 0 21 v0 rfl rfl) h0
  obtain ⟨d, rfl, rfl, rfl, wd⟩ := open_int Try.underlying21 (hval 1 21 v1 rfl rfl) h1
  obtain ⟨b, rfl, rfl, rfl, wb⟩ := open_int Try.underlying22 (hval 2 22 v2 rfl rfl) h2
  obtain ⟨c30, c31, y30, y31, m3, rfl, rfl, rfl, hy30, hy31⟩ := Go.Joins.open_agg2 Try.underlying24 (by kernel_rfl) (by kernel_rfl) (hval 3 24 v3 rfl rfl) h3
  obtain ⟨a0, e30, rfl, wa0⟩ := DataW.trod_int Try.underlying3 hy30
  simp only [List.cons.injEq, and_true] at e30
  subst e30
  obtain ⟨a1, e31, rfl, wa1⟩ := DataW.trod_int Try.underlying3 hy31
  simp only [List.cons.injEq, and_true] at e31
  subst e31
  clear hA0 hval0
  refine (makes_walk n d b a0 a1 wn wd wb wa0 wa1 W).mono fun e W' ⟨he, hb⟩ => ?_
  subst he
  exact ⟨_, rfl, law_post (B := 4) laidOut (by rw [Try.params3]; simp only [List.mem_cons, List.not_mem_nil, or_false, forall_eq_or_imp, forall_eq]; first | exact readable_ratioMakes | (repeat' apply And.intro) <;> first | exact of_decide_eq_true (by kernel_rfl) | kernel_rfl) rfl Try.underlying4 rfl rfl hW' hb⟩

theorem ratioMakes_over : Rows.ratioMakesRow.holds Try.pinned (OpenSpec.ofChange Rows.ratioMakesSpec) :=
  OpenClaim.holds_of_wide 3 Try.f3 rfl rfl rfl rfl rfl rfl rfl ⟨rfl, rfl, rfl, rfl, rfl⟩ rfl rfl rfl rfl rfl (by kernel_rfl) Try.func3 (by kernel_rfl)
    (of_decide_eq_true (by kernel_rfl)) (by unfold Func.isWrapper; first | (rw [if_pos (by decide +kernel)]; kernel_rfl) | (rw [if_neg (by decide +kernel)]; exact ⟨rfl, rfl⟩))
    (fun os started H enc _ => ratioMakes_lifted os started H enc)

theorem ratioMakes_holds : Rows.RatioMakesSaid := ratioMakes_over
#print axioms ratioMakes_holds
end Go.Proofs.Ytmndiejojlmblaa
