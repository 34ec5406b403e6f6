/-
  RatioOrder: comparing says the sign of the difference, the other way round the opposite, 0 exactly for the same ratio; and is transitive.
  No condition: for every input.
-/
import Derived.Test.YtmndiejojlmblaaRatS
import Derived.Test.YtmndiejojlmblaaLaw
import Derived.Test.YtmndiejojlmblaaBase2
namespace Go.Proofs.Ytmndiejojlmblaa
set_option linter.unusedSimpArgs false
set_option linter.unusedVariables false
open Go.ChangeShapes Go.WideShapes Go.ChangeAt Go.RowKit

theorem sgn_fit {n d : Int} (hd : 0 < d) (h : fitE n d = 0) : (n < 0 → fitN n d < 0) ∧ (0 < n → 0 < fitN n d) ∧ (n = 0 → fitN n d = 0) := by
  obtain ⟨_, h1, h2⟩ := fit_ok hd h
  refine ⟨fun hn => ?_, fun hn => ?_, fun hn => ?_⟩
  · rcases Int.lt_or_le (fitN n d) 0 with h3 | h3
    · exact h3
    · have := Int.mul_nonneg h3 (Int.le_of_lt hd)
      have := Int.mul_neg_of_pos_of_neg h2 hn
      omega
  · rcases Int.lt_or_le 0 (fitN n d) with h3 | h3
    · exact h3
    · have := Int.mul_nonneg (show 0 ≤ -fitN n d by omega) (Int.le_of_lt hd)
      rw [Int.neg_mul] at this
      have := Int.mul_pos h2 hn
      omega
  · subst hn
    rw [Int.mul_zero] at h1
    rcases Int.mul_eq_zero.1 h1 with h3 | h3
    · exact h3
    · omega

/-- cross products: what is below b, which is not above c, is below c. -/
theorem cross_lt {a0 a1 b0 b1 c0 c1 : Int} (ha : 0 < a1) (hb : 0 < b1) (hc : 0 < c1) (h1 : a0 * b1 < b0 * a1) (h2 : b0 * c1 ≤ c0 * b1) : a0 * c1 < c0 * a1 := by
  have k1 := Int.mul_lt_mul_of_pos_right h1 hc
  have k2 := Int.mul_le_mul_of_nonneg_right h2 (Int.le_of_lt ha)
  have k3 : a0 * c1 * b1 < c0 * a1 * b1 := by
    have e1 : a0 * b1 * c1 = a0 * c1 * b1 := by rw [Int.mul_assoc, Int.mul_comm b1, ← Int.mul_assoc]
    have e2 : b0 * a1 * c1 = b0 * c1 * a1 := by rw [Int.mul_assoc, Int.mul_comm a1, ← Int.mul_assoc]
    have e3 : c0 * b1 * a1 = c0 * a1 * b1 := by rw [Int.mul_assoc, Int.mul_comm b1, ← Int.mul_assoc]
    omega
  exact Int.lt_of_mul_lt_mul_right k3 (Int.le_of_lt hb)
theorem cross_le {a0 a1 b0 b1 c0 c1 : Int} (ha : 0 < a1) (hb : 0 < b1) (hc : 0 < c1) (h1 : a0 * b1 = b0 * a1) (h2 : b0 * c1 < c0 * b1) : a0 * c1 < c0 * a1 := by
  have k1 : a0 * b1 * c1 = b0 * a1 * c1 := by rw [h1]
  have k2 := Int.mul_lt_mul_of_pos_right h2 ha
  have k3 : a0 * c1 * b1 < c0 * a1 * b1 := by
    have e1 : a0 * b1 * c1 = a0 * c1 * b1 := by rw [Int.mul_assoc, Int.mul_comm b1, ← Int.mul_assoc]
    have e2 : b0 * a1 * c1 = b0 * c1 * a1 := by rw [Int.mul_assoc, Int.mul_comm a1, ← Int.mul_assoc]
    have e3 : c0 * b1 * a1 = c0 * a1 * b1 := by rw [Int.mul_assoc, Int.mul_comm b1, ← Int.mul_assoc]
    omega
  exact Int.lt_of_mul_lt_mul_right k3 (Int.le_of_lt hb)
theorem cross_eq {a0 a1 b0 b1 c0 c1 : Int} (hb : 0 < b1) (h1 : a0 * b1 = b0 * a1) (h2 : b0 * c1 = c0 * b1) : a0 * c1 = c0 * a1 := by
  refine Int.eq_of_mul_eq_mul_right (show b1 ≠ 0 by omega) ?_
  clear hb
  grind

theorem cmp_range (a b c d : Int) : -1 ≤ cmpV a b c d ∧ cmpV a b c d ≤ 1 := by unfold cmpV; split <;> (try split) <;> (try split) <;> omega
theorem cmpE_ok {a b c d : Int} (h1 : vldP a b) (h2 : vldP c d) : cmpE a b c d = 0 := if_pos ⟨h1, h2⟩

/-- Which of them is compared as what. -/
theorem cmp_law {a0 a1 b0 b1 c0 c1 : Int} (va : vldP a0 a1) (vb : vldP b0 b1) (vc : vldP c0 c1) :
    (a0 * b1 < b0 * a1 ∧ cmpV a0 a1 b0 b1 = -1 ∧ cmpV b0 b1 a0 a1 = 1 ∧ (a0 == b0 && a1 == b1) = false ∧ (cmpV b0 b1 c0 c1 = -1 ∧ cmpV a0 a1 c0 c1 = -1 ∨ cmpV b0 b1 c0 c1 = 0 ∧ cmpV a0 a1 c0 c1 = -1 ∨ cmpV b0 b1 c0 c1 = 1)) ∨
    (a0 * b1 = b0 * a1 ∧ cmpV a0 a1 b0 b1 = 0 ∧ cmpV b0 b1 a0 a1 = 0 ∧ (a0 == b0 && a1 == b1) = true ∧ (cmpV b0 b1 c0 c1 = -1 ∧ cmpV a0 a1 c0 c1 = -1 ∨ cmpV b0 b1 c0 c1 = 0 ∧ cmpV a0 a1 c0 c1 = 0 ∨ cmpV b0 b1 c0 c1 = 1)) ∨
    (b0 * a1 < a0 * b1 ∧ cmpV a0 a1 b0 b1 = 1 ∧ cmpV b0 b1 a0 a1 = -1 ∧ (a0 == b0 && a1 == b1) = false) := by
  have ha : 0 < a1 := by have := va.1; omega
  have hb : 0 < b1 := by have := vb.1; omega
  have hc : 0 < c1 := by have := vc.1; omega
  have ne : ¬ a0 * b1 = b0 * a1 → (a0 == b0 && a1 == b1) = false := by
    intro h
    rw [Bool.and_eq_false_iff]
    by_cases h0 : a0 = b0
    · refine Or.inr ?_
      rw [beq_eq_false_iff_ne]
      rintro rfl
      exact h (by rw [h0])
    · exact Or.inl (by rw [beq_eq_false_iff_ne]; exact h0)
  rcases Int.lt_trichotomy (a0 * b1) (b0 * a1) with h | h | h
  · refine Or.inl ⟨h, (cmp_lt va vb h).1, (cmp_gt vb va h).1, ne (by omega), ?_⟩
    rcases Int.lt_trichotomy (b0 * c1) (c0 * b1) with g | g | g
    · exact Or.inl ⟨(cmp_lt vb vc g).1, (cmp_lt va vc (cross_lt ha hb hc h (by omega))).1⟩
    · exact Or.inr (Or.inl ⟨(cmp_eq vb vc g).1, (cmp_lt va vc (cross_lt ha hb hc h (by omega))).1⟩)
    · exact Or.inr (Or.inr (cmp_gt vb vc g).1)
  · refine Or.inr (Or.inl ⟨h, (cmp_eq va vb h).1, (cmp_eq vb va h.symm).1, ?_, ?_⟩)
    · obtain ⟨p, q⟩ := r_same ha hb h
      obtain ⟨p1, q1⟩ := r_lowest va.2.2.2.2
      obtain ⟨p2, q2⟩ := r_lowest vb.2.2.2.2
      have e1 : a0 = b0 := by omega
      have e2 : a1 = b1 := by omega
      subst e1 e2
      simp
    · rcases Int.lt_trichotomy (b0 * c1) (c0 * b1) with g | g | g
      · exact Or.inl ⟨(cmp_lt vb vc g).1, (cmp_lt va vc (cross_le ha hb hc h g)).1⟩
      · exact Or.inr (Or.inl ⟨(cmp_eq vb vc g).1, (cmp_eq va vc (cross_eq hb h g)).1⟩)
      · exact Or.inr (Or.inr (cmp_gt vb vc g).1)
  · exact Or.inr (Or.inr ⟨h, (cmp_gt va vb h).1, (cmp_lt vb va h).1, ne (by omega)⟩)

attribute [local go_sem ↓] eql_rat neq_rat


set_option maxRecDepth 100000 in
set_option maxHeartbeats 8000000 in
theorem order_walk (a0 a1 b0 b1 c0 c1 : Int) (_ : (Lit.int .i64 a0).wf = true) (_ : (Lit.int .i64 a1).wf = true) (_ : (Lit.int .i64 b0).wf = true) (_ : (Lit.int .i64 b1).wf = true) (_ : (Lit.int .i64 c0).wf = true) (_ : (Lit.int .i64 c1).wf = true) (w : World) :
    Calls Try.prog 9 #[.agg #[.int .i64 a0, .int .i64 a1], .agg #[.int .i64 b0, .int .i64 b1], .agg #[.int .i64 c0, .int .i64 c1]] w fun e w' => e = .returned (.bool true) ∧ Below w.heap.size w w' := by
  by_cases va : vldP a0 a1
  · have ea := vld_true va
    by_cases vb : vldP b0 b1
    · have eb := vld_true vb
      by_cases vc : vldP c0 c1
      · have ec := vld_true vc
        have HL := Lib.hid (cmp_law va vb vc)
        have q1 := cmpE_ok va vb
        have q2 := cmpE_ok vb va
        have q3 := cmpE_ok vb vc
        have q4 := cmpE_ok va vc
        go_enter Try.func9, Try.ntmps9
        go_wp2_with fail
        refine (head_any _).mono ?_
        rintro e w1 ⟨rfl, hb1⟩
        have R_a_1 : Row w1 (w.heap.size) [.int .i64 (a0), .int .i64 (a1)] := by (repeat' (first | (with_reducible assumption) | (with_reducible refine Row.new' _ _ _ (by first | rfl | (simp; done) | omega)) | (with_reducible refine Row.alloc ?_ _) | (with_reducible refine Row.drew ?_) | (with_reducible refine Row.drewN ?_ _) | (with_reducible refine Row.step ?_ (by with_reducible assumption)) | (with_reducible refine Row.set2' ?_ _ _; refine ⟨_, _, ?_⟩) | (with_reducible refine Row.other ?_ (by first | omega | (simp; done) | (simp; omega)) _)))
        have c_a_0_1 := R_a_1.cell 0 rfl
        have c_a_1_1 := R_a_1.cell 1 rfl
        have l_a_1 := R_a_1.lt
        have R_b_1 : Row w1 (w.heap.size + 1) [.int .i64 (b0), .int .i64 (b1)] := by (repeat' (first | (with_reducible assumption) | (with_reducible refine Row.new' _ _ _ (by first | rfl | (simp; done) | omega)) | (with_reducible refine Row.alloc ?_ _) | (with_reducible refine Row.drew ?_) | (with_reducible refine Row.drewN ?_ _) | (with_reducible refine Row.step ?_ (by with_reducible assumption)) | (with_reducible refine Row.set2' ?_ _ _; refine ⟨_, _, ?_⟩) | (with_reducible refine Row.other ?_ (by first | omega | (simp; done) | (simp; omega)) _)))
        have c_b_0_1 := R_b_1.cell 0 rfl
        have c_b_1_1 := R_b_1.cell 1 rfl
        have l_b_1 := R_b_1.lt
        have R_c_1 : Row w1 (w.heap.size + 1 + 1) [.int .i64 (c0), .int .i64 (c1)] := by (repeat' (first | (with_reducible assumption) | (with_reducible refine Row.new' _ _ _ (by first | rfl | (simp; done) | omega)) | (with_reducible refine Row.alloc ?_ _) | (with_reducible refine Row.drew ?_) | (with_reducible refine Row.drewN ?_ _) | (with_reducible refine Row.step ?_ (by with_reducible assumption)) | (with_reducible refine Row.set2' ?_ _ _; refine ⟨_, _, ?_⟩) | (with_reducible refine Row.other ?_ (by first | omega | (simp; done) | (simp; omega)) _)))
        have c_c_0_1 := R_c_1.cell 0 rfl
        have c_c_1_1 := R_c_1.cell 1 rfl
        have l_c_1 := R_c_1.lt
        have HB1 : Below w.heap.size w w1 := by (repeat' (first | (with_reducible exact Below.refl _ _) | (with_reducible assumption) | (with_reducible exact Bw.out (by with_reducible assumption)) | (with_reducible refine bw_alloc ?_ _) | (with_reducible refine bw_step ?_ (by with_reducible assumption)) | (with_reducible refine Below.alloc ?_ ?_ _) | (with_reducible refine Below.drew ?_) | (with_reducible refine below_drewN ?_ _) | (with_reducible refine Below.setCell ?_ ?_ _) | (with_reducible refine below_step ?_ (by with_reducible assumption) ?_) | (with_reducible exact Nat.le_refl _) | omega | (simp; omega) | (simp; done)))
        go_wp2_with fail
        refine (R_valid_any _ _ _).mono ?_
        rintro e w2 ⟨rfl, hb2⟩
        have R_a_2 : Row w2 (w.heap.size) [.int .i64 (a0), .int .i64 (a1)] := by (repeat' (first | (with_reducible assumption) | (with_reducible refine Row.new' _ _ _ (by first | rfl | (simp; done) | omega)) | (with_reducible refine Row.alloc ?_ _) | (with_reducible refine Row.drew ?_) | (with_reducible refine Row.drewN ?_ _) | (with_reducible refine Row.step ?_ (by with_reducible assumption)) | (with_reducible refine Row.set2' ?_ _ _; refine ⟨_, _, ?_⟩) | (with_reducible refine Row.other ?_ (by first | omega | (simp; done) | (simp; omega)) _)))
        have c_a_0_2 := R_a_2.cell 0 rfl
        have c_a_1_2 := R_a_2.cell 1 rfl
        have l_a_2 := R_a_2.lt
        have R_b_2 : Row w2 (w.heap.size + 1) [.int .i64 (b0), .int .i64 (b1)] := by (repeat' (first | (with_reducible assumption) | (with_reducible refine Row.new' _ _ _ (by first | rfl | (simp; done) | omega)) | (with_reducible refine Row.alloc ?_ _) | (with_reducible refine Row.drew ?_) | (with_reducible refine Row.drewN ?_ _) | (with_reducible refine Row.step ?_ (by with_reducible assumption)) | (with_reducible refine Row.set2' ?_ _ _; refine ⟨_, _, ?_⟩) | (with_reducible refine Row.other ?_ (by first | omega | (simp; done) | (simp; omega)) _)))
        have c_b_0_2 := R_b_2.cell 0 rfl
        have c_b_1_2 := R_b_2.cell 1 rfl
        have l_b_2 := R_b_2.lt
        have R_c_2 : Row w2 (w.heap.size + 1 + 1) [.int .i64 (c0), .int .i64 (c1)] := by (repeat' (first | (with_reducible assumption) | (with_reducible refine Row.new' _ _ _ (by first | rfl | (simp; done) | omega)) | (with_reducible refine Row.alloc ?_ _) | (with_reducible refine Row.drew ?_) | (with_reducible refine Row.drewN ?_ _) | (with_reducible refine Row.step ?_ (by with_reducible assumption)) | (with_reducible refine Row.set2' ?_ _ _; refine ⟨_, _, ?_⟩) | (with_reducible refine Row.other ?_ (by first | omega | (simp; done) | (simp; omega)) _)))
        have c_c_0_2 := R_c_2.cell 0 rfl
        have c_c_1_2 := R_c_2.cell 1 rfl
        have l_c_2 := R_c_2.lt
        have HB2 : Below w.heap.size w w2 := by (repeat' (first | (with_reducible exact Below.refl _ _) | (with_reducible assumption) | (with_reducible exact Bw.out (by with_reducible assumption)) | (with_reducible refine bw_alloc ?_ _) | (with_reducible refine bw_step ?_ (by with_reducible assumption)) | (with_reducible refine Below.alloc ?_ ?_ _) | (with_reducible refine Below.drew ?_) | (with_reducible refine below_drewN ?_ _) | (with_reducible refine Below.setCell ?_ ?_ _) | (with_reducible refine below_step ?_ (by with_reducible assumption) ?_) | (with_reducible exact Nat.le_refl _) | omega | (simp; omega) | (simp; done)))
        clear R_a_1 c_a_0_1 c_a_1_1 R_b_1 c_b_0_1 c_b_1_1 R_c_1 c_c_0_1 c_c_1_1 hb1 HB1
        go_wp2_with fail
        refine (R_valid_any _ _ _).mono ?_
        rintro e w3 ⟨rfl, hb3⟩
        have R_a_3 : Row w3 (w.heap.size) [.int .i64 (a0), .int .i64 (a1)] := by (repeat' (first | (with_reducible assumption) | (with_reducible refine Row.new' _ _ _ (by first | rfl | (simp; done) | omega)) | (with_reducible refine Row.alloc ?_ _) | (with_reducible refine Row.drew ?_) | (with_reducible refine Row.drewN ?_ _) | (with_reducible refine Row.step ?_ (by with_reducible assumption)) | (with_reducible refine Row.set2' ?_ _ _; refine ⟨_, _, ?_⟩) | (with_reducible refine Row.other ?_ (by first | omega | (simp; done) | (simp; omega)) _)))
        have c_a_0_3 := R_a_3.cell 0 rfl
        have c_a_1_3 := R_a_3.cell 1 rfl
        have l_a_3 := R_a_3.lt
        have R_b_3 : Row w3 (w.heap.size + 1) [.int .i64 (b0), .int .i64 (b1)] := by (repeat' (first | (with_reducible assumption) | (with_reducible refine Row.new' _ _ _ (by first | rfl | (simp; done) | omega)) | (with_reducible refine Row.alloc ?_ _) | (with_reducible refine Row.drew ?_) | (with_reducible refine Row.drewN ?_ _) | (with_reducible refine Row.step ?_ (by with_reducible assumption)) | (with_reducible refine Row.set2' ?_ _ _; refine ⟨_, _, ?_⟩) | (with_reducible refine Row.other ?_ (by first | omega | (simp; done) | (simp; omega)) _)))
        have c_b_0_3 := R_b_3.cell 0 rfl
        have c_b_1_3 := R_b_3.cell 1 rfl
        have l_b_3 := R_b_3.lt
        have R_c_3 : Row w3 (w.heap.size + 1 + 1) [.int .i64 (c0), .int .i64 (c1)] := by (repeat' (first | (with_reducible assumption) | (with_reducible refine Row.new' _ _ _ (by first | rfl | (simp; done) | omega)) | (with_reducible refine Row.alloc ?_ _) | (with_reducible refine Row.drew ?_) | (with_reducible refine Row.drewN ?_ _) | (with_reducible refine Row.step ?_ (by with_reducible assumption)) | (with_reducible refine Row.set2' ?_ _ _; refine ⟨_, _, ?_⟩) | (with_reducible refine Row.other ?_ (by first | omega | (simp; done) | (simp; omega)) _)))
        have c_c_0_3 := R_c_3.cell 0 rfl
        have c_c_1_3 := R_c_3.cell 1 rfl
        have l_c_3 := R_c_3.lt
        have HB3 : Below w.heap.size w w3 := by (repeat' (first | (with_reducible exact Below.refl _ _) | (with_reducible assumption) | (with_reducible exact Bw.out (by with_reducible assumption)) | (with_reducible refine bw_alloc ?_ _) | (with_reducible refine bw_step ?_ (by with_reducible assumption)) | (with_reducible refine Below.alloc ?_ ?_ _) | (with_reducible refine Below.drew ?_) | (with_reducible refine below_drewN ?_ _) | (with_reducible refine Below.setCell ?_ ?_ _) | (with_reducible refine below_step ?_ (by with_reducible assumption) ?_) | (with_reducible exact Nat.le_refl _) | omega | (simp; omega) | (simp; done)))
        clear R_a_2 c_a_0_2 c_a_1_2 R_b_2 c_b_0_2 c_b_1_2 R_c_2 c_c_0_2 c_c_1_2 hb2 HB2
        go_wp2_with fail
        refine (R_valid_any _ _ _).mono ?_
        rintro e w4 ⟨rfl, hb4⟩
        have R_a_4 : Row w4 (w.heap.size) [.int .i64 (a0), .int .i64 (a1)] := by (repeat' (first | (with_reducible assumption) | (with_reducible refine Row.new' _ _ _ (by first | rfl | (simp; done) | omega)) | (with_reducible refine Row.alloc ?_ _) | (with_reducible refine Row.drew ?_) | (with_reducible refine Row.drewN ?_ _) | (with_reducible refine Row.step ?_ (by with_reducible assumption)) | (with_reducible refine Row.set2' ?_ _ _; refine ⟨_, _, ?_⟩) | (with_reducible refine Row.other ?_ (by first | omega | (simp; done) | (simp; omega)) _)))
        have c_a_0_4 := R_a_4.cell 0 rfl
        have c_a_1_4 := R_a_4.cell 1 rfl
        have l_a_4 := R_a_4.lt
        have R_b_4 : Row w4 (w.heap.size + 1) [.int .i64 (b0), .int .i64 (b1)] := by (repeat' (first | (with_reducible assumption) | (with_reducible refine Row.new' _ _ _ (by first | rfl | (simp; done) | omega)) | (with_reducible refine Row.alloc ?_ _) | (with_reducible refine Row.drew ?_) | (with_reducible refine Row.drewN ?_ _) | (with_reducible refine Row.step ?_ (by with_reducible assumption)) | (with_reducible refine Row.set2' ?_ _ _; refine ⟨_, _, ?_⟩) | (with_reducible refine Row.other ?_ (by first | omega | (simp; done) | (simp; omega)) _)))
        have c_b_0_4 := R_b_4.cell 0 rfl
        have c_b_1_4 := R_b_4.cell 1 rfl
        have l_b_4 := R_b_4.lt
        have R_c_4 : Row w4 (w.heap.size + 1 + 1) [.int .i64 (c0), .int .i64 (c1)] := by (repeat' (first | (with_reducible assumption) | (with_reducible refine Row.new' _ _ _ (by first | rfl | (simp; done) | omega)) | (with_reducible refine Row.alloc ?_ _) | (with_reducible refine Row.drew ?_) | (with_reducible refine Row.drewN ?_ _) | (with_reducible refine Row.step ?_ (by with_reducible assumption)) | (with_reducible refine Row.set2' ?_ _ _; refine ⟨_, _, ?_⟩) | (with_reducible refine Row.other ?_ (by first | omega | (simp; done) | (simp; omega)) _)))
        have c_c_0_4 := R_c_4.cell 0 rfl
        have c_c_1_4 := R_c_4.cell 1 rfl
        have l_c_4 := R_c_4.lt
        have HB4 : Below w.heap.size w w4 := by (repeat' (first | (with_reducible exact Below.refl _ _) | (with_reducible assumption) | (with_reducible exact Bw.out (by with_reducible assumption)) | (with_reducible refine bw_alloc ?_ _) | (with_reducible refine bw_step ?_ (by with_reducible assumption)) | (with_reducible refine Below.alloc ?_ ?_ _) | (with_reducible refine Below.drew ?_) | (with_reducible refine below_drewN ?_ _) | (with_reducible refine Below.setCell ?_ ?_ _) | (with_reducible refine below_step ?_ (by with_reducible assumption) ?_) | (with_reducible exact Nat.le_refl _) | omega | (simp; omega) | (simp; done)))
        clear R_a_3 c_a_0_3 c_a_1_3 R_b_3 c_b_0_3 c_b_1_3 R_c_3 c_c_0_3 c_c_1_3 hb3 HB3
        go_wp2_with fail
        refine (compare_any _ _ _ _ _).mono ?_
        rintro e w5 ⟨rfl, hb5⟩
        have R_a_5 : Row w5 (w.heap.size) [.int .i64 (a0), .int .i64 (a1)] := by (repeat' (first | (with_reducible assumption) | (with_reducible refine Row.new' _ _ _ (by first | rfl | (simp; done) | omega)) | (with_reducible refine Row.alloc ?_ _) | (with_reducible refine Row.drew ?_) | (with_reducible refine Row.drewN ?_ _) | (with_reducible refine Row.step ?_ (by with_reducible assumption)) | (with_reducible refine Row.set2' ?_ _ _; refine ⟨_, _, ?_⟩) | (with_reducible refine Row.other ?_ (by first | omega | (simp; done) | (simp; omega)) _)))
        have c_a_0_5 := R_a_5.cell 0 rfl
        have c_a_1_5 := R_a_5.cell 1 rfl
        have l_a_5 := R_a_5.lt
        have R_b_5 : Row w5 (w.heap.size + 1) [.int .i64 (b0), .int .i64 (b1)] := by (repeat' (first | (with_reducible assumption) | (with_reducible refine Row.new' _ _ _ (by first | rfl | (simp; done) | omega)) | (with_reducible refine Row.alloc ?_ _) | (with_reducible refine Row.drew ?_) | (with_reducible refine Row.drewN ?_ _) | (with_reducible refine Row.step ?_ (by with_reducible assumption)) | (with_reducible refine Row.set2' ?_ _ _; refine ⟨_, _, ?_⟩) | (with_reducible refine Row.other ?_ (by first | omega | (simp; done) | (simp; omega)) _)))
        have c_b_0_5 := R_b_5.cell 0 rfl
        have c_b_1_5 := R_b_5.cell 1 rfl
        have l_b_5 := R_b_5.lt
        have R_c_5 : Row w5 (w.heap.size + 1 + 1) [.int .i64 (c0), .int .i64 (c1)] := by (repeat' (first | (with_reducible assumption) | (with_reducible refine Row.new' _ _ _ (by first | rfl | (simp; done) | omega)) | (with_reducible refine Row.alloc ?_ _) | (with_reducible refine Row.drew ?_) | (with_reducible refine Row.drewN ?_ _) | (with_reducible refine Row.step ?_ (by with_reducible assumption)) | (with_reducible refine Row.set2' ?_ _ _; refine ⟨_, _, ?_⟩) | (with_reducible refine Row.other ?_ (by first | omega | (simp; done) | (simp; omega)) _)))
        have c_c_0_5 := R_c_5.cell 0 rfl
        have c_c_1_5 := R_c_5.cell 1 rfl
        have l_c_5 := R_c_5.lt
        have HB5 : Below w.heap.size w w5 := by (repeat' (first | (with_reducible exact Below.refl _ _) | (with_reducible assumption) | (with_reducible exact Bw.out (by with_reducible assumption)) | (with_reducible refine bw_alloc ?_ _) | (with_reducible refine bw_step ?_ (by with_reducible assumption)) | (with_reducible refine Below.alloc ?_ ?_ _) | (with_reducible refine Below.drew ?_) | (with_reducible refine below_drewN ?_ _) | (with_reducible refine Below.setCell ?_ ?_ _) | (with_reducible refine below_step ?_ (by with_reducible assumption) ?_) | (with_reducible exact Nat.le_refl _) | omega | (simp; omega) | (simp; done)))
        clear R_a_4 c_a_0_4 c_a_1_4 R_b_4 c_b_0_4 c_b_1_4 R_c_4 c_c_0_4 c_c_1_4 hb4 HB4
        go_wp2_with fail
        refine (compare_any _ _ _ _ _).mono ?_
        rintro e w6 ⟨rfl, hb6⟩
        have R_a_6 : Row w6 (w.heap.size) [.int .i64 (a0), .int .i64 (a1)] := by (repeat' (first | (with_reducible assumption) | (with_reducible refine Row.new' _ _ _ (by first | rfl | (simp; done) | omega)) | (with_reducible refine Row.alloc ?_ _) | (with_reducible refine Row.drew ?_) | (with_reducible refine Row.drewN ?_ _) | (with_reducible refine Row.step ?_ (by with_reducible assumption)) | (with_reducible refine Row.set2' ?_ _ _; refine ⟨_, _, ?_⟩) | (with_reducible refine Row.other ?_ (by first | omega | (simp; done) | (simp; omega)) _)))
        have c_a_0_6 := R_a_6.cell 0 rfl
        have c_a_1_6 := R_a_6.cell 1 rfl
        have l_a_6 := R_a_6.lt
        have R_b_6 : Row w6 (w.heap.size + 1) [.int .i64 (b0), .int .i64 (b1)] := by (repeat' (first | (with_reducible assumption) | (with_reducible refine Row.new' _ _ _ (by first | rfl | (simp; done) | omega)) | (with_reducible refine Row.alloc ?_ _) | (with_reducible refine Row.drew ?_) | (with_reducible refine Row.drewN ?_ _) | (with_reducible refine Row.step ?_ (by with_reducible assumption)) | (with_reducible refine Row.set2' ?_ _ _; refine ⟨_, _, ?_⟩) | (with_reducible refine Row.other ?_ (by first | omega | (simp; done) | (simp; omega)) _)))
        have c_b_0_6 := R_b_6.cell 0 rfl
        have c_b_1_6 := R_b_6.cell 1 rfl
        have l_b_6 := R_b_6.lt
        have R_c_6 : Row w6 (w.heap.size + 1 + 1) [.int .i64 (c0), .int .i64 (c1)] := by (repeat' (first | (with_reducible assumption) | (with_reducible refine Row.new' _ _ _ (by first | rfl | (simp; done) | omega)) | (with_reducible refine Row.alloc ?_ _) | (with_reducible refine Row.drew ?_) | (with_reducible refine Row.drewN ?_ _) | (with_reducible refine Row.step ?_ (by with_reducible assumption)) | (with_reducible refine Row.set2' ?_ _ _; refine ⟨_, _, ?_⟩) | (with_reducible refine Row.other ?_ (by first | omega | (simp; done) | (simp; omega)) _)))
        have c_c_0_6 := R_c_6.cell 0 rfl
        have c_c_1_6 := R_c_6.cell 1 rfl
        have l_c_6 := R_c_6.lt
        have HB6 : Below w.heap.size w w6 := by (repeat' (first | (with_reducible exact Below.refl _ _) | (with_reducible assumption) | (with_reducible exact Bw.out (by with_reducible assumption)) | (with_reducible refine bw_alloc ?_ _) | (with_reducible refine bw_step ?_ (by with_reducible assumption)) | (with_reducible refine Below.alloc ?_ ?_ _) | (with_reducible refine Below.drew ?_) | (with_reducible refine below_drewN ?_ _) | (with_reducible refine Below.setCell ?_ ?_ _) | (with_reducible refine below_step ?_ (by with_reducible assumption) ?_) | (with_reducible exact Nat.le_refl _) | omega | (simp; omega) | (simp; done)))
        clear R_a_5 c_a_0_5 c_a_1_5 R_b_5 c_b_0_5 c_b_1_5 R_c_5 c_c_0_5 c_c_1_5 hb5 HB5
        go_wp2_with fail
        refine (compare_any _ _ _ _ _).mono ?_
        rintro e w7 ⟨rfl, hb7⟩
        have R_a_7 : Row w7 (w.heap.size) [.int .i64 (a0), .int .i64 (a1)] := by (repeat' (first | (with_reducible assumption) | (with_reducible refine Row.new' _ _ _ (by first | rfl | (simp; done) | omega)) | (with_reducible refine Row.alloc ?_ _) | (with_reducible refine Row.drew ?_) | (with_reducible refine Row.drewN ?_ _) | (with_reducible refine Row.step ?_ (by with_reducible assumption)) | (with_reducible refine Row.set2' ?_ _ _; refine ⟨_, _, ?_⟩) | (with_reducible refine Row.other ?_ (by first | omega | (simp; done) | (simp; omega)) _)))
        have c_a_0_7 := R_a_7.cell 0 rfl
        have c_a_1_7 := R_a_7.cell 1 rfl
        have l_a_7 := R_a_7.lt
        have R_b_7 : Row w7 (w.heap.size + 1) [.int .i64 (b0), .int .i64 (b1)] := by (repeat' (first | (with_reducible assumption) | (with_reducible refine Row.new' _ _ _ (by first | rfl | (simp; done) | omega)) | (with_reducible refine Row.alloc ?_ _) | (with_reducible refine Row.drew ?_) | (with_reducible refine Row.drewN ?_ _) | (with_reducible refine Row.step ?_ (by with_reducible assumption)) | (with_reducible refine Row.set2' ?_ _ _; refine ⟨_, _, ?_⟩) | (with_reducible refine Row.other ?_ (by first | omega | (simp; done) | (simp; omega)) _)))
        have c_b_0_7 := R_b_7.cell 0 rfl
        have c_b_1_7 := R_b_7.cell 1 rfl
        have l_b_7 := R_b_7.lt
        have R_c_7 : Row w7 (w.heap.size + 1 + 1) [.int .i64 (c0), .int .i64 (c1)] := by (repeat' (first | (with_reducible assumption) | (with_reducible refine Row.new' _ _ _ (by first | rfl | (simp; done) | omega)) | (with_reducible refine Row.alloc ?_ _) | (with_reducible refine Row.drew ?_) | (with_reducible refine Row.drewN ?_ _) | (with_reducible refine Row.step ?_ (by with_reducible assumption)) | (with_reducible refine Row.set2' ?_ _ _; refine ⟨_, _, ?_⟩) | (with_reducible refine Row.other ?_ (by first | omega | (simp; done) | (simp; omega)) _)))
        have c_c_0_7 := R_c_7.cell 0 rfl
        have c_c_1_7 := R_c_7.cell 1 rfl
        have l_c_7 := R_c_7.lt
        have HB7 : Below w.heap.size w w7 := by (repeat' (first | (with_reducible exact Below.refl _ _) | (with_reducible assumption) | (with_reducible exact Bw.out (by with_reducible assumption)) | (with_reducible refine bw_alloc ?_ _) | (with_reducible refine bw_step ?_ (by with_reducible assumption)) | (with_reducible refine Below.alloc ?_ ?_ _) | (with_reducible refine Below.drew ?_) | (with_reducible refine below_drewN ?_ _) | (with_reducible refine Below.setCell ?_ ?_ _) | (with_reducible refine below_step ?_ (by with_reducible assumption) ?_) | (with_reducible exact Nat.le_refl _) | omega | (simp; omega) | (simp; done)))
        clear R_a_6 c_a_0_6 c_a_1_6 R_b_6 c_b_0_6 c_b_1_6 R_c_6 c_c_0_6 c_c_1_6 hb6 HB6
        go_wp2_with fail
        refine (compare_any _ _ _ _ _).mono ?_
        rintro e w8 ⟨rfl, hb8⟩
        have R_a_8 : Row w8 (w.heap.size) [.int .i64 (a0), .int .i64 (a1)] := by (repeat' (first | (with_reducible assumption) | (with_reducible refine Row.new' _ _ _ (by first | rfl | (simp; done) | omega)) | (with_reducible refine Row.alloc ?_ _) | (with_reducible refine Row.drew ?_) | (with_reducible refine Row.drewN ?_ _) | (with_reducible refine Row.step ?_ (by with_reducible assumption)) | (with_reducible refine Row.set2' ?_ _ _; refine ⟨_, _, ?_⟩) | (with_reducible refine Row.other ?_ (by first | omega | (simp; done) | (simp; omega)) _)))
        have c_a_0_8 := R_a_8.cell 0 rfl
        have c_a_1_8 := R_a_8.cell 1 rfl
        have l_a_8 := R_a_8.lt
        have R_b_8 : Row w8 (w.heap.size + 1) [.int .i64 (b0), .int .i64 (b1)] := by (repeat' (first | (with_reducible assumption) | (with_reducible refine Row.new' _ _ _ (by first | rfl | (simp; done) | omega)) | (with_reducible refine Row.alloc ?_ _) | (with_reducible refine Row.drew ?_) | (with_reducible refine Row.drewN ?_ _) | (with_reducible refine Row.step ?_ (by with_reducible assumption)) | (with_reducible refine Row.set2' ?_ _ _; refine ⟨_, _, ?_⟩) | (with_reducible refine Row.other ?_ (by first | omega | (simp; done) | (simp; omega)) _)))
        have c_b_0_8 := R_b_8.cell 0 rfl
        have c_b_1_8 := R_b_8.cell 1 rfl
        have l_b_8 := R_b_8.lt
        have R_c_8 : Row w8 (w.heap.size + 1 + 1) [.int .i64 (c0), .int .i64 (c1)] := by (repeat' (first | (with_reducible assumption) | (with_reducible refine Row.new' _ _ _ (by first | rfl | (simp; done) | omega)) | (with_reducible refine Row.alloc ?_ _) | (with_reducible refine Row.drew ?_) | (with_reducible refine Row.drewN ?_ _) | (with_reducible refine Row.step ?_ (by with_reducible assumption)) | (with_reducible refine Row.set2' ?_ _ _; refine ⟨_, _, ?_⟩) | (with_reducible refine Row.other ?_ (by first | omega | (simp; done) | (simp; omega)) _)))
        have c_c_0_8 := R_c_8.cell 0 rfl
        have c_c_1_8 := R_c_8.cell 1 rfl
        have l_c_8 := R_c_8.lt
        have HB8 : Below w.heap.size w w8 := by (repeat' (first | (with_reducible exact Below.refl _ _) | (with_reducible assumption) | (with_reducible exact Bw.out (by with_reducible assumption)) | (with_reducible refine bw_alloc ?_ _) | (with_reducible refine bw_step ?_ (by with_reducible assumption)) | (with_reducible refine Below.alloc ?_ ?_ _) | (with_reducible refine Below.drew ?_) | (with_reducible refine below_drewN ?_ _) | (with_reducible refine Below.setCell ?_ ?_ _) | (with_reducible refine below_step ?_ (by with_reducible assumption) ?_) | (with_reducible exact Nat.le_refl _) | omega | (simp; omega) | (simp; done)))
        clear R_a_7 c_a_0_7 c_a_1_7 R_b_7 c_b_0_7 c_b_1_7 R_c_7 c_c_0_7 c_c_1_7 hb7 HB7
        have hd : 0 < a1 * b1 := Int.mul_pos (by have := va.1; omega) (by have := vb.1; omega)
        rcases fitE_or (a0 * b1 - b0 * a1) (a1 * b1) with f | f
        · obtain ⟨g1, g2, g3⟩ := sgn_fit hd f
          rcases HL.out with ⟨h1, h2, h3, h4, h⟩ | ⟨h1, h2, h3, h4, h⟩ | ⟨h1, h2, h3, h4⟩
          · have g := g1 (by omega)
            have gg : ¬ 0 < fitN (a0 * b1 - b0 * a1) (a1 * b1) := by omega
            clear g1 g2 g3
            rcases h with ⟨h5, h6⟩ | ⟨h5, h6⟩ | h5
            all_goals
              go_wp2_with fail
              refine (Sub_v _ _ _ _ _ va vb).mono ?_
              rintro e w9 ⟨rfl, hb9⟩
              have R_a_9 : Row w9 (w.heap.size) [.int .i64 (a0), .int .i64 (a1)] := by (repeat' (first | (with_reducible assumption) | (with_reducible refine Row.new' _ _ _ (by first | rfl | (simp; done) | omega)) | (with_reducible refine Row.alloc ?_ _) | (with_reducible refine Row.drew ?_) | (with_reducible refine Row.drewN ?_ _) | (with_reducible refine Row.step ?_ (by with_reducible assumption)) | (with_reducible refine Row.set2' ?_ _ _; refine ⟨_, _, ?_⟩) | (with_reducible refine Row.other ?_ (by first | omega | (simp; done) | (simp; omega)) _)))
              have c_a_0_9 := R_a_9.cell 0 rfl
              have c_a_1_9 := R_a_9.cell 1 rfl
              have l_a_9 := R_a_9.lt
              have R_b_9 : Row w9 (w.heap.size + 1) [.int .i64 (b0), .int .i64 (b1)] := by (repeat' (first | (with_reducible assumption) | (with_reducible refine Row.new' _ _ _ (by first | rfl | (simp; done) | omega)) | (with_reducible refine Row.alloc ?_ _) | (with_reducible refine Row.drew ?_) | (with_reducible refine Row.drewN ?_ _) | (with_reducible refine Row.step ?_ (by with_reducible assumption)) | (with_reducible refine Row.set2' ?_ _ _; refine ⟨_, _, ?_⟩) | (with_reducible refine Row.other ?_ (by first | omega | (simp; done) | (simp; omega)) _)))
              have c_b_0_9 := R_b_9.cell 0 rfl
              have c_b_1_9 := R_b_9.cell 1 rfl
              have l_b_9 := R_b_9.lt
              have R_c_9 : Row w9 (w.heap.size + 1 + 1) [.int .i64 (c0), .int .i64 (c1)] := by (repeat' (first | (with_reducible assumption) | (with_reducible refine Row.new' _ _ _ (by first | rfl | (simp; done) | omega)) | (with_reducible refine Row.alloc ?_ _) | (with_reducible refine Row.drew ?_) | (with_reducible refine Row.drewN ?_ _) | (with_reducible refine Row.step ?_ (by with_reducible assumption)) | (with_reducible refine Row.set2' ?_ _ _; refine ⟨_, _, ?_⟩) | (with_reducible refine Row.other ?_ (by first | omega | (simp; done) | (simp; omega)) _)))
              have c_c_0_9 := R_c_9.cell 0 rfl
              have c_c_1_9 := R_c_9.cell 1 rfl
              have l_c_9 := R_c_9.lt
              have HB9 : Below w.heap.size w w9 := by (repeat' (first | (with_reducible exact Below.refl _ _) | (with_reducible assumption) | (with_reducible exact Bw.out (by with_reducible assumption)) | (with_reducible refine bw_alloc ?_ _) | (with_reducible refine bw_step ?_ (by with_reducible assumption)) | (with_reducible refine Below.alloc ?_ ?_ _) | (with_reducible refine Below.drew ?_) | (with_reducible refine below_drewN ?_ _) | (with_reducible refine Below.setCell ?_ ?_ _) | (with_reducible refine below_step ?_ (by with_reducible assumption) ?_) | (with_reducible exact Nat.le_refl _) | omega | (simp; omega) | (simp; done)))
              clear R_a_8 c_a_0_8 c_a_1_8 R_b_8 c_b_0_8 c_b_1_8 R_c_8 c_c_0_8 c_c_1_8 hb8 HB8
              go_wp2_with fail
              go_ret
              refine ⟨(by first | rfl | exact ret_bool (by first | rfl | (simp; done) | (simp; omega))), ?_⟩
              (repeat' (first | (with_reducible exact Below.refl _ _) | (with_reducible assumption) | (with_reducible exact Bw.out (by with_reducible assumption)) | (with_reducible refine bw_alloc ?_ _) | (with_reducible refine bw_step ?_ (by with_reducible assumption)) | (with_reducible refine Below.alloc ?_ ?_ _) | (with_reducible refine Below.drew ?_) | (with_reducible refine below_drewN ?_ _) | (with_reducible refine Below.setCell ?_ ?_ _) | (with_reducible refine below_step ?_ (by with_reducible assumption) ?_) | (with_reducible exact Nat.le_refl _) | omega | (simp; omega) | (simp; done)))
          · have g := g3 (by omega)
            clear g1 g2 g3 h1
            rcases h with ⟨h5, h6⟩ | ⟨h5, h6⟩ | h5
            all_goals
              go_wp2_with fail
              refine (Sub_v _ _ _ _ _ va vb).mono ?_
              rintro e w9 ⟨rfl, hb9⟩
              have R_a_9 : Row w9 (w.heap.size) [.int .i64 (a0), .int .i64 (a1)] := by (repeat' (first | (with_reducible assumption) | (with_reducible refine Row.new' _ _ _ (by first | rfl | (simp; done) | omega)) | (with_reducible refine Row.alloc ?_ _) | (with_reducible refine Row.drew ?_) | (with_reducible refine Row.drewN ?_ _) | (with_reducible refine Row.step ?_ (by with_reducible assumption)) | (with_reducible refine Row.set2' ?_ _ _; refine ⟨_, _, ?_⟩) | (with_reducible refine Row.other ?_ (by first | omega | (simp; done) | (simp; omega)) _)))
              have c_a_0_9 := R_a_9.cell 0 rfl
              have c_a_1_9 := R_a_9.cell 1 rfl
              have l_a_9 := R_a_9.lt
              have R_b_9 : Row w9 (w.heap.size + 1) [.int .i64 (b0), .int .i64 (b1)] := by (repeat' (first | (with_reducible assumption) | (with_reducible refine Row.new' _ _ _ (by first | rfl | (simp; done) | omega)) | (with_reducible refine Row.alloc ?_ _) | (with_reducible refine Row.drew ?_) | (with_reducible refine Row.drewN ?_ _) | (with_reducible refine Row.step ?_ (by with_reducible assumption)) | (with_reducible refine Row.set2' ?_ _ _; refine ⟨_, _, ?_⟩) | (with_reducible refine Row.other ?_ (by first | omega | (simp; done) | (simp; omega)) _)))
              have c_b_0_9 := R_b_9.cell 0 rfl
              have c_b_1_9 := R_b_9.cell 1 rfl
              have l_b_9 := R_b_9.lt
              have R_c_9 : Row w9 (w.heap.size + 1 + 1) [.int .i64 (c0), .int .i64 (c1)] := by (repeat' (first | (with_reducible assumption) | (with_reducible refine Row.new' _ _ _ (by first | rfl | (simp; done) | omega)) | (with_reducible refine Row.alloc ?_ _) | (with_reducible refine Row.drew ?_) | (with_reducible refine Row.drewN ?_ _) | (with_reducible refine Row.step ?_ (by with_reducible assumption)) | (with_reducible refine Row.set2' ?_ _ _; refine ⟨_, _, ?_⟩) | (with_reducible refine Row.other ?_ (by first | omega | (simp; done) | (simp; omega)) _)))
              have c_c_0_9 := R_c_9.cell 0 rfl
              have c_c_1_9 := R_c_9.cell 1 rfl
              have l_c_9 := R_c_9.lt
              have HB9 : Below w.heap.size w w9 := by (repeat' (first | (with_reducible exact Below.refl _ _) | (with_reducible assumption) | (with_reducible exact Bw.out (by with_reducible assumption)) | (with_reducible refine bw_alloc ?_ _) | (with_reducible refine bw_step ?_ (by with_reducible assumption)) | (with_reducible refine Below.alloc ?_ ?_ _) | (with_reducible refine Below.drew ?_) | (with_reducible refine below_drewN ?_ _) | (with_reducible refine Below.setCell ?_ ?_ _) | (with_reducible refine below_step ?_ (by with_reducible assumption) ?_) | (with_reducible exact Nat.le_refl _) | omega | (simp; omega) | (simp; done)))
              clear R_a_8 c_a_0_8 c_a_1_8 R_b_8 c_b_0_8 c_b_1_8 R_c_8 c_c_0_8 c_c_1_8 hb8 HB8
              go_wp2_with fail
              go_ret
              refine ⟨(by first | rfl | exact ret_bool (by first | rfl | (simp; done) | (simp; omega))), ?_⟩
              (repeat' (first | (with_reducible exact Below.refl _ _) | (with_reducible assumption) | (with_reducible exact Bw.out (by with_reducible assumption)) | (with_reducible refine bw_alloc ?_ _) | (with_reducible refine bw_step ?_ (by with_reducible assumption)) | (with_reducible refine Below.alloc ?_ ?_ _) | (with_reducible refine Below.drew ?_) | (with_reducible refine below_drewN ?_ _) | (with_reducible refine Below.setCell ?_ ?_ _) | (with_reducible refine below_step ?_ (by with_reducible assumption) ?_) | (with_reducible exact Nat.le_refl _) | omega | (simp; omega) | (simp; done)))
          · have g := g2 (by omega)
            clear g1 g2 g3
            go_wp2_with fail
            refine (Sub_v _ _ _ _ _ va vb).mono ?_
            rintro e w9 ⟨rfl, hb9⟩
            have R_a_9 : Row w9 (w.heap.size) [.int .i64 (a0), .int .i64 (a1)] := by (repeat' (first | (with_reducible assumption) | (with_reducible refine Row.new' _ _ _ (by first | rfl | (simp; done) | omega)) | (with_reducible refine Row.alloc ?_ _) | (with_reducible refine Row.drew ?_) | (with_reducible refine Row.drewN ?_ _) | (with_reducible refine Row.step ?_ (by with_reducible assumption)) | (with_reducible refine Row.set2' ?_ _ _; refine ⟨_, _, ?_⟩) | (with_reducible refine Row.other ?_ (by first | omega | (simp; done) | (simp; omega)) _)))
            have c_a_0_9 := R_a_9.cell 0 rfl
            have c_a_1_9 := R_a_9.cell 1 rfl
            have l_a_9 := R_a_9.lt
            have R_b_9 : Row w9 (w.heap.size + 1) [.int .i64 (b0), .int .i64 (b1)] := by (repeat' (first | (with_reducible assumption) | (with_reducible refine Row.new' _ _ _ (by first | rfl | (simp; done) | omega)) | (with_reducible refine Row.alloc ?_ _) | (with_reducible refine Row.drew ?_) | (with_reducible refine Row.drewN ?_ _) | (with_reducible refine Row.step ?_ (by with_reducible assumption)) | (with_reducible refine Row.set2' ?_ _ _; refine ⟨_, _, ?_⟩) | (with_reducible refine Row.other ?_ (by first | omega | (simp; done) | (simp; omega)) _)))
            have c_b_0_9 := R_b_9.cell 0 rfl
            have c_b_1_9 := R_b_9.cell 1 rfl
            have l_b_9 := R_b_9.lt
            have R_c_9 : Row w9 (w.heap.size + 1 + 1) [.int .i64 (c0), .int .i64 (c1)] := by (repeat' (first | (with_reducible assumption) | (with_reducible refine Row.new' _ _ _ (by first | rfl | (simp; done) | omega)) | (with_reducible refine Row.alloc ?_ _) | (with_reducible refine Row.drew ?_) | (with_reducible refine Row.drewN ?_ _) | (with_reducible refine Row.step ?_ (by with_reducible assumption)) | (with_reducible refine Row.set2' ?_ _ _; refine ⟨_, _, ?_⟩) | (with_reducible refine Row.other ?_ (by first | omega | (simp; done) | (simp; omega)) _)))
            have c_c_0_9 := R_c_9.cell 0 rfl
            have c_c_1_9 := R_c_9.cell 1 rfl
            have l_c_9 := R_c_9.lt
            have HB9 : Below w.heap.size w w9 := by (repeat' (first | (with_reducible exact Below.refl _ _) | (with_reducible assumption) | (with_reducible exact Bw.out (by with_reducible assumption)) | (with_reducible refine bw_alloc ?_ _) | (with_reducible refine bw_step ?_ (by with_reducible assumption)) | (with_reducible refine Below.alloc ?_ ?_ _) | (with_reducible refine Below.drew ?_) | (with_reducible refine below_drewN ?_ _) | (with_reducible refine Below.setCell ?_ ?_ _) | (with_reducible refine below_step ?_ (by with_reducible assumption) ?_) | (with_reducible exact Nat.le_refl _) | omega | (simp; omega) | (simp; done)))
            clear R_a_8 c_a_0_8 c_a_1_8 R_b_8 c_b_0_8 c_b_1_8 R_c_8 c_c_0_8 c_c_1_8 hb8 HB8
            go_wp2_with fail
            go_ret
            refine ⟨(by first | rfl | exact ret_bool (by first | rfl | (simp; done) | (simp; omega))), ?_⟩
            (repeat' (first | (with_reducible exact Below.refl _ _) | (with_reducible assumption) | (with_reducible exact Bw.out (by with_reducible assumption)) | (with_reducible refine bw_alloc ?_ _) | (with_reducible refine bw_step ?_ (by with_reducible assumption)) | (with_reducible refine Below.alloc ?_ ?_ _) | (with_reducible refine Below.drew ?_) | (with_reducible refine below_drewN ?_ _) | (with_reducible refine Below.setCell ?_ ?_ _) | (with_reducible refine below_step ?_ (by with_reducible assumption) ?_) | (with_reducible exact Nat.le_refl _) | omega | (simp; omega) | (simp; done)))
        · rcases HL.out with ⟨h1, h2, h3, h4, h⟩ | ⟨h1, h2, h3, h4, h⟩ | ⟨h1, h2, h3, h4⟩
          · clear h1
            rcases h with ⟨h5, h6⟩ | ⟨h5, h6⟩ | h5
            all_goals
              go_wp2_with fail
              refine (Sub_v _ _ _ _ _ va vb).mono ?_
              rintro e w9 ⟨rfl, hb9⟩
              have R_a_9 : Row w9 (w.heap.size) [.int .i64 (a0), .int .i64 (a1)] := by (repeat' (first | (with_reducible assumption) | (with_reducible refine Row.new' _ _ _ (by first | rfl | (simp; done) | omega)) | (with_reducible refine Row.alloc ?_ _) | (with_reducible refine Row.drew ?_) | (with_reducible refine Row.drewN ?_ _) | (with_reducible refine Row.step ?_ (by with_reducible assumption)) | (with_reducible refine Row.set2' ?_ _ _; refine ⟨_, _, ?_⟩) | (with_reducible refine Row.other ?_ (by first | omega | (simp; done) | (simp; omega)) _)))
              have c_a_0_9 := R_a_9.cell 0 rfl
              have c_a_1_9 := R_a_9.cell 1 rfl
              have l_a_9 := R_a_9.lt
              have R_b_9 : Row w9 (w.heap.size + 1) [.int .i64 (b0), .int .i64 (b1)] := by (repeat' (first | (with_reducible assumption) | (with_reducible refine Row.new' _ _ _ (by first | rfl | (simp; done) | omega)) | (with_reducible refine Row.alloc ?_ _) | (with_reducible refine Row.drew ?_) | (with_reducible refine Row.drewN ?_ _) | (with_reducible refine Row.step ?_ (by with_reducible assumption)) | (with_reducible refine Row.set2' ?_ _ _; refine ⟨_, _, ?_⟩) | (with_reducible refine Row.other ?_ (by first | omega | (simp; done) | (simp; omega)) _)))
              have c_b_0_9 := R_b_9.cell 0 rfl
              have c_b_1_9 := R_b_9.cell 1 rfl
              have l_b_9 := R_b_9.lt
              have R_c_9 : Row w9 (w.heap.size + 1 + 1) [.int .i64 (c0), .int .i64 (c1)] := by (repeat' (first | (with_reducible assumption) | (with_reducible refine Row.new' _ _ _ (by first | rfl | (simp; done) | omega)) | (with_reducible refine Row.alloc ?_ _) | (with_reducible refine Row.drew ?_) | (with_reducible refine Row.drewN ?_ _) | (with_reducible refine Row.step ?_ (by with_reducible assumption)) | (with_reducible refine Row.set2' ?_ _ _; refine ⟨_, _, ?_⟩) | (with_reducible refine Row.other ?_ (by first | omega | (simp; done) | (simp; omega)) _)))
              have c_c_0_9 := R_c_9.cell 0 rfl
              have c_c_1_9 := R_c_9.cell 1 rfl
              have l_c_9 := R_c_9.lt
              have HB9 : Below w.heap.size w w9 := by (repeat' (first | (with_reducible exact Below.refl _ _) | (with_reducible assumption) | (with_reducible exact Bw.out (by with_reducible assumption)) | (with_reducible refine bw_alloc ?_ _) | (with_reducible refine bw_step ?_ (by with_reducible assumption)) | (with_reducible refine Below.alloc ?_ ?_ _) | (with_reducible refine Below.drew ?_) | (with_reducible refine below_drewN ?_ _) | (with_reducible refine Below.setCell ?_ ?_ _) | (with_reducible refine below_step ?_ (by with_reducible assumption) ?_) | (with_reducible exact Nat.le_refl _) | omega | (simp; omega) | (simp; done)))
              clear R_a_8 c_a_0_8 c_a_1_8 R_b_8 c_b_0_8 c_b_1_8 R_c_8 c_c_0_8 c_c_1_8 hb8 HB8
              go_wp2_with fail
              go_ret
              refine ⟨(by first | rfl | exact ret_bool (by first | rfl | (simp; done) | (simp; omega))), ?_⟩
              (repeat' (first | (with_reducible exact Below.refl _ _) | (with_reducible assumption) | (with_reducible exact Bw.out (by with_reducible assumption)) | (with_reducible refine bw_alloc ?_ _) | (with_reducible refine bw_step ?_ (by with_reducible assumption)) | (with_reducible refine Below.alloc ?_ ?_ _) | (with_reducible refine Below.drew ?_) | (with_reducible refine below_drewN ?_ _) | (with_reducible refine Below.setCell ?_ ?_ _) | (with_reducible refine below_step ?_ (by with_reducible assumption) ?_) | (with_reducible exact Nat.le_refl _) | omega | (simp; omega) | (simp; done)))
          · clear h1
            rcases h with ⟨h5, h6⟩ | ⟨h5, h6⟩ | h5
            all_goals
              go_wp2_with fail
              refine (Sub_v _ _ _ _ _ va vb).mono ?_
              rintro e w9 ⟨rfl, hb9⟩
              have R_a_9 : Row w9 (w.heap.size) [.int .i64 (a0), .int .i64 (a1)] := by (repeat' (first | (with_reducible assumption) | (with_reducible refine Row.new' _ _ _ (by first | rfl | (simp; done) | omega)) | (with_reducible refine Row.alloc ?_ _) | (with_reducible refine Row.drew ?_) | (with_reducible refine Row.drewN ?_ _) | (with_reducible refine Row.step ?_ (by with_reducible assumption)) | (with_reducible refine Row.set2' ?_ _ _; refine ⟨_, _, ?_⟩) | (with_reducible refine Row.other ?_ (by first | omega | (simp; done) | (simp; omega)) _)))
              have c_a_0_9 := R_a_9.cell 0 rfl
              have c_a_1_9 := R_a_9.cell 1 rfl
              have l_a_9 := R_a_9.lt
              have R_b_9 : Row w9 (w.heap.size + 1) [.int .i64 (b0), .int .i64 (b1)] := by (repeat' (first | (with_reducible assumption) | (with_reducible refine Row.new' _ _ _ (by first | rfl | (simp; done) | omega)) | (with_reducible refine Row.alloc ?_ _) | (with_reducible refine Row.drew ?_) | (with_reducible refine Row.drewN ?_ _) | (with_reducible refine Row.step ?_ (by with_reducible assumption)) | (with_reducible refine Row.set2' ?_ _ _; refine ⟨_, _, ?_⟩) | (with_reducible refine Row.other ?_ (by first | omega | (simp; done) | (simp; omega)) _)))
              have c_b_0_9 := R_b_9.cell 0 rfl
              have c_b_1_9 := R_b_9.cell 1 rfl
              have l_b_9 := R_b_9.lt
              have R_c_9 : Row w9 (w.heap.size + 1 + 1) [.int .i64 (c0), .int .i64 (c1)] := by (repeat' (first | (with_reducible assumption) | (with_reducible refine Row.new' _ _ _ (by first | rfl | (simp; done) | omega)) | (with_reducible refine Row.alloc ?_ _) | (with_reducible refine Row.drew ?_) | (with_reducible refine Row.drewN ?_ _) | (with_reducible refine Row.step ?_ (by with_reducible assumption)) | (with_reducible refine Row.set2' ?_ _ _; refine ⟨_, _, ?_⟩) | (with_reducible refine Row.other ?_ (by first | omega | (simp; done) | (simp; omega)) _)))
              have c_c_0_9 := R_c_9.cell 0 rfl
              have c_c_1_9 := R_c_9.cell 1 rfl
              have l_c_9 := R_c_9.lt
              have HB9 : Below w.heap.size w w9 := by (repeat' (first | (with_reducible exact Below.refl _ _) | (with_reducible assumption) | (with_reducible exact Bw.out (by with_reducible assumption)) | (with_reducible refine bw_alloc ?_ _) | (with_reducible refine bw_step ?_ (by with_reducible assumption)) | (with_reducible refine Below.alloc ?_ ?_ _) | (with_reducible refine Below.drew ?_) | (with_reducible refine below_drewN ?_ _) | (with_reducible refine Below.setCell ?_ ?_ _) | (with_reducible refine below_step ?_ (by with_reducible assumption) ?_) | (with_reducible exact Nat.le_refl _) | omega | (simp; omega) | (simp; done)))
              clear R_a_8 c_a_0_8 c_a_1_8 R_b_8 c_b_0_8 c_b_1_8 R_c_8 c_c_0_8 c_c_1_8 hb8 HB8
              go_wp2_with fail
              go_ret
              refine ⟨(by first | rfl | exact ret_bool (by first | rfl | (simp; done) | (simp; omega))), ?_⟩
              (repeat' (first | (with_reducible exact Below.refl _ _) | (with_reducible assumption) | (with_reducible exact Bw.out (by with_reducible assumption)) | (with_reducible refine bw_alloc ?_ _) | (with_reducible refine bw_step ?_ (by with_reducible assumption)) | (with_reducible refine Below.alloc ?_ ?_ _) | (with_reducible refine Below.drew ?_) | (with_reducible refine below_drewN ?_ _) | (with_reducible refine Below.setCell ?_ ?_ _) | (with_reducible refine below_step ?_ (by with_reducible assumption) ?_) | (with_reducible exact Nat.le_refl _) | omega | (simp; omega) | (simp; done)))
          · go_wp2_with fail
            refine (Sub_v _ _ _ _ _ va vb).mono ?_
            rintro e w9 ⟨rfl, hb9⟩
            have R_a_9 : Row w9 (w.heap.size) [.int .i64 (a0), .int .i64 (a1)] := by (repeat' (first | (with_reducible assumption) | (with_reducible refine Row.new' _ _ _ (by first | rfl | (simp; done) | omega)) | (with_reducible refine Row.alloc ?_ _) | (with_reducible refine Row.drew ?_) | (with_reducible refine Row.drewN ?_ _) | (with_reducible refine Row.step ?_ (by with_reducible assumption)) | (with_reducible refine Row.set2' ?_ _ _; refine ⟨_, _, ?_⟩) | (with_reducible refine Row.other ?_ (by first | omega | (simp; done) | (simp; omega)) _)))
            have c_a_0_9 := R_a_9.cell 0 rfl
            have c_a_1_9 := R_a_9.cell 1 rfl
            have l_a_9 := R_a_9.lt
            have R_b_9 : Row w9 (w.heap.size + 1) [.int .i64 (b0), .int .i64 (b1)] := by (repeat' (first | (with_reducible assumption) | (with_reducible refine Row.new' _ _ _ (by first | rfl | (simp; done) | omega)) | (with_reducible refine Row.alloc ?_ _) | (with_reducible refine Row.drew ?_) | (with_reducible refine Row.drewN ?_ _) | (with_reducible refine Row.step ?_ (by with_reducible assumption)) | (with_reducible refine Row.set2' ?_ _ _; refine ⟨_, _, ?_⟩) | (with_reducible refine Row.other ?_ (by first | omega | (simp; done) | (simp; omega)) _)))
            have c_b_0_9 := R_b_9.cell 0 rfl
            have c_b_1_9 := R_b_9.cell 1 rfl
            have l_b_9 := R_b_9.lt
            have R_c_9 : Row w9 (w.heap.size + 1 + 1) [.int .i64 (c0), .int .i64 (c1)] := by (repeat' (first | (with_reducible assumption) | (with_reducible refine Row.new' _ _ _ (by first | rfl | (simp; done) | omega)) | (with_reducible refine Row.alloc ?_ _) | (with_reducible refine Row.drew ?_) | (with_reducible refine Row.drewN ?_ _) | (with_reducible refine Row.step ?_ (by with_reducible assumption)) | (with_reducible refine Row.set2' ?_ _ _; refine ⟨_, _, ?_⟩) | (with_reducible refine Row.other ?_ (by first | omega | (simp; done) | (simp; omega)) _)))
            have c_c_0_9 := R_c_9.cell 0 rfl
            have c_c_1_9 := R_c_9.cell 1 rfl
            have l_c_9 := R_c_9.lt
            have HB9 : Below w.heap.size w w9 := by (repeat' (first | (with_reducible exact Below.refl _ _) | (with_reducible assumption) | (with_reducible exact Bw.out (by with_reducible assumption)) | (with_reducible refine bw_alloc ?_ _) | (with_reducible refine bw_step ?_ (by with_reducible assumption)) | (with_reducible refine Below.alloc ?_ ?_ _) | (with_reducible refine Below.drew ?_) | (with_reducible refine below_drewN ?_ _) | (with_reducible refine Below.setCell ?_ ?_ _) | (with_reducible refine below_step ?_ (by with_reducible assumption) ?_) | (with_reducible exact Nat.le_refl _) | omega | (simp; omega) | (simp; done)))
            clear R_a_8 c_a_0_8 c_a_1_8 R_b_8 c_b_0_8 c_b_1_8 R_c_8 c_c_0_8 c_c_1_8 hb8 HB8
            go_wp2_with fail
            go_ret
            refine ⟨(by first | rfl | exact ret_bool (by first | rfl | (simp; done) | (simp; omega))), ?_⟩
            (repeat' (first | (with_reducible exact Below.refl _ _) | (with_reducible assumption) | (with_reducible exact Bw.out (by with_reducible assumption)) | (with_reducible refine bw_alloc ?_ _) | (with_reducible refine bw_step ?_ (by with_reducible assumption)) | (with_reducible refine Below.alloc ?_ ?_ _) | (with_reducible refine Below.drew ?_) | (with_reducible refine below_drewN ?_ _) | (with_reducible refine Below.setCell ?_ ?_ _) | (with_reducible refine below_step ?_ (by with_reducible assumption) ?_) | (with_reducible exact Nat.le_refl _) | omega | (simp; omega) | (simp; done)))
      · have ec := vld_false vc
        go_enter Try.func9, Try.ntmps9
        go_wp2_with fail
        refine (head_any _).mono ?_
        rintro e w1 ⟨rfl, hb1⟩
        have R_a_1 : Row w1 (w.heap.size) [.int .i64 (a0), .int .i64 (a1)] := by (repeat' (first | (with_reducible assumption) | (with_reducible refine Row.new' _ _ _ (by first | rfl | (simp; done) | omega)) | (with_reducible refine Row.alloc ?_ _) | (with_reducible refine Row.drew ?_) | (with_reducible refine Row.drewN ?_ _) | (with_reducible refine Row.step ?_ (by with_reducible assumption)) | (with_reducible refine Row.set2' ?_ _ _; refine ⟨_, _, ?_⟩) | (with_reducible refine Row.other ?_ (by first | omega | (simp; done) | (simp; omega)) _)))
        have c_a_0_1 := R_a_1.cell 0 rfl
        have c_a_1_1 := R_a_1.cell 1 rfl
        have l_a_1 := R_a_1.lt
        have R_b_1 : Row w1 (w.heap.size + 1) [.int .i64 (b0), .int .i64 (b1)] := by (repeat' (first | (with_reducible assumption) | (with_reducible refine Row.new' _ _ _ (by first | rfl | (simp; done) | omega)) | (with_reducible refine Row.alloc ?_ _) | (with_reducible refine Row.drew ?_) | (with_reducible refine Row.drewN ?_ _) | (with_reducible refine Row.step ?_ (by with_reducible assumption)) | (with_reducible refine Row.set2' ?_ _ _; refine ⟨_, _, ?_⟩) | (with_reducible refine Row.other ?_ (by first | omega | (simp; done) | (simp; omega)) _)))
        have c_b_0_1 := R_b_1.cell 0 rfl
        have c_b_1_1 := R_b_1.cell 1 rfl
        have l_b_1 := R_b_1.lt
        have R_c_1 : Row w1 (w.heap.size + 1 + 1) [.int .i64 (c0), .int .i64 (c1)] := by (repeat' (first | (with_reducible assumption) | (with_reducible refine Row.new' _ _ _ (by first | rfl | (simp; done) | omega)) | (with_reducible refine Row.alloc ?_ _) | (with_reducible refine Row.drew ?_) | (with_reducible refine Row.drewN ?_ _) | (with_reducible refine Row.step ?_ (by with_reducible assumption)) | (with_reducible refine Row.set2' ?_ _ _; refine ⟨_, _, ?_⟩) | (with_reducible refine Row.other ?_ (by first | omega | (simp; done) | (simp; omega)) _)))
        have c_c_0_1 := R_c_1.cell 0 rfl
        have c_c_1_1 := R_c_1.cell 1 rfl
        have l_c_1 := R_c_1.lt
        have HB1 : Below w.heap.size w w1 := by (repeat' (first | (with_reducible exact Below.refl _ _) | (with_reducible assumption) | (with_reducible exact Bw.out (by with_reducible assumption)) | (with_reducible refine bw_alloc ?_ _) | (with_reducible refine bw_step ?_ (by with_reducible assumption)) | (with_reducible refine Below.alloc ?_ ?_ _) | (with_reducible refine Below.drew ?_) | (with_reducible refine below_drewN ?_ _) | (with_reducible refine Below.setCell ?_ ?_ _) | (with_reducible refine below_step ?_ (by with_reducible assumption) ?_) | (with_reducible exact Nat.le_refl _) | omega | (simp; omega) | (simp; done)))
        go_wp2_with fail
        refine (R_valid_any _ _ _).mono ?_
        rintro e w2 ⟨rfl, hb2⟩
        have R_a_2 : Row w2 (w.heap.size) [.int .i64 (a0), .int .i64 (a1)] := by (repeat' (first | (with_reducible assumption) | (with_reducible refine Row.new' _ _ _ (by first | rfl | (simp; done) | omega)) | (with_reducible refine Row.alloc ?_ _) | (with_reducible refine Row.drew ?_) | (with_reducible refine Row.drewN ?_ _) | (with_reducible refine Row.step ?_ (by with_reducible assumption)) | (with_reducible refine Row.set2' ?_ _ _; refine ⟨_, _, ?_⟩) | (with_reducible refine Row.other ?_ (by first | omega | (simp; done) | (simp; omega)) _)))
        have c_a_0_2 := R_a_2.cell 0 rfl
        have c_a_1_2 := R_a_2.cell 1 rfl
        have l_a_2 := R_a_2.lt
        have R_b_2 : Row w2 (w.heap.size + 1) [.int .i64 (b0), .int .i64 (b1)] := by (repeat' (first | (with_reducible assumption) | (with_reducible refine Row.new' _ _ _ (by first | rfl | (simp; done) | omega)) | (with_reducible refine Row.alloc ?_ _) | (with_reducible refine Row.drew ?_) | (with_reducible refine Row.drewN ?_ _) | (with_reducible refine Row.step ?_ (by with_reducible assumption)) | (with_reducible refine Row.set2' ?_ _ _; refine ⟨_, _, ?_⟩) | (with_reducible refine Row.other ?_ (by first | omega | (simp; done) | (simp; omega)) _)))
        have c_b_0_2 := R_b_2.cell 0 rfl
        have c_b_1_2 := R_b_2.cell 1 rfl
        have l_b_2 := R_b_2.lt
        have R_c_2 : Row w2 (w.heap.size + 1 + 1) [.int .i64 (c0), .int .i64 (c1)] := by (repeat' (first | (with_reducible assumption) | (with_reducible refine Row.new' _ _ _ (by first | rfl | (simp; done) | omega)) | (with_reducible refine Row.alloc ?_ _) | (with_reducible refine Row.drew ?_) | (with_reducible refine Row.drewN ?_ _) | (with_reducible refine Row.step ?_ (by with_reducible assumption)) | (with_reducible refine Row.set2' ?_ _ _; refine ⟨_, _, ?_⟩) | (with_reducible refine Row.other ?_ (by first | omega | (simp; done) | (simp; omega)) _)))
        have c_c_0_2 := R_c_2.cell 0 rfl
        have c_c_1_2 := R_c_2.cell 1 rfl
        have l_c_2 := R_c_2.lt
        have HB2 : Below w.heap.size w w2 := by (repeat' (first | (with_reducible exact Below.refl _ _) | (with_reducible assumption) | (with_reducible exact Bw.out (by with_reducible assumption)) | (with_reducible refine bw_alloc ?_ _) | (with_reducible refine bw_step ?_ (by with_reducible assumption)) | (with_reducible refine Below.alloc ?_ ?_ _) | (with_reducible refine Below.drew ?_) | (with_reducible refine below_drewN ?_ _) | (with_reducible refine Below.setCell ?_ ?_ _) | (with_reducible refine below_step ?_ (by with_reducible assumption) ?_) | (with_reducible exact Nat.le_refl _) | omega | (simp; omega) | (simp; done)))
        clear R_a_1 c_a_0_1 c_a_1_1 R_b_1 c_b_0_1 c_b_1_1 R_c_1 c_c_0_1 c_c_1_1 hb1 HB1
        go_wp2_with fail
        refine (R_valid_any _ _ _).mono ?_
        rintro e w3 ⟨rfl, hb3⟩
        have R_a_3 : Row w3 (w.heap.size) [.int .i64 (a0), .int .i64 (a1)] := by (repeat' (first | (with_reducible assumption) | (with_reducible refine Row.new' _ _ _ (by first | rfl | (simp; done) | omega)) | (with_reducible refine Row.alloc ?_ _) | (with_reducible refine Row.drew ?_) | (with_reducible refine Row.drewN ?_ _) | (with_reducible refine Row.step ?_ (by with_reducible assumption)) | (with_reducible refine Row.set2' ?_ _ _; refine ⟨_, _, ?_⟩) | (with_reducible refine Row.other ?_ (by first | omega | (simp; done) | (simp; omega)) _)))
        have c_a_0_3 := R_a_3.cell 0 rfl
        have c_a_1_3 := R_a_3.cell 1 rfl
        have l_a_3 := R_a_3.lt
        have R_b_3 : Row w3 (w.heap.size + 1) [.int .i64 (b0), .int .i64 (b1)] := by (repeat' (first | (with_reducible assumption) | (with_reducible refine Row.new' _ _ _ (by first | rfl | (simp; done) | omega)) | (with_reducible refine Row.alloc ?_ _) | (with_reducible refine Row.drew ?_) | (with_reducible refine Row.drewN ?_ _) | (with_reducible refine Row.step ?_ (by with_reducible assumption)) | (with_reducible refine Row.set2' ?_ _ _; refine ⟨_, _, ?_⟩) | (with_reducible refine Row.other ?_ (by first | omega | (simp; done) | (simp; omega)) _)))
        have c_b_0_3 := R_b_3.cell 0 rfl
        have c_b_1_3 := R_b_3.cell 1 rfl
        have l_b_3 := R_b_3.lt
        have R_c_3 : Row w3 (w.heap.size + 1 + 1) [.int .i64 (c0), .int .i64 (c1)] := by (repeat' (first | (with_reducible assumption) | (with_reducible refine Row.new' _ _ _ (by first | rfl | (simp; done) | omega)) | (with_reducible refine Row.alloc ?_ _) | (with_reducible refine Row.drew ?_) | (with_reducible refine Row.drewN ?_ _) | (with_reducible refine Row.step ?_ (by with_reducible assumption)) | (with_reducible refine Row.set2' ?_ _ _; refine ⟨_, _, ?_⟩) | (with_reducible refine Row.other ?_ (by first | omega | (simp; done) | (simp; omega)) _)))
        have c_c_0_3 := R_c_3.cell 0 rfl
        have c_c_1_3 := R_c_3.cell 1 rfl
        have l_c_3 := R_c_3.lt
        have HB3 : Below w.heap.size w w3 := by (repeat' (first | (with_reducible exact Below.refl _ _) | (with_reducible assumption) | (with_reducible exact Bw.out (by with_reducible assumption)) | (with_reducible refine bw_alloc ?_ _) | (with_reducible refine bw_step ?_ (by with_reducible assumption)) | (with_reducible refine Below.alloc ?_ ?_ _) | (with_reducible refine Below.drew ?_) | (with_reducible refine below_drewN ?_ _) | (with_reducible refine Below.setCell ?_ ?_ _) | (with_reducible refine below_step ?_ (by with_reducible assumption) ?_) | (with_reducible exact Nat.le_refl _) | omega | (simp; omega) | (simp; done)))
        clear R_a_2 c_a_0_2 c_a_1_2 R_b_2 c_b_0_2 c_b_1_2 R_c_2 c_c_0_2 c_c_1_2 hb2 HB2
        go_wp2_with fail
        refine (R_valid_any _ _ _).mono ?_
        rintro e w4 ⟨rfl, hb4⟩
        have R_a_4 : Row w4 (w.heap.size) [.int .i64 (a0), .int .i64 (a1)] := by (repeat' (first | (with_reducible assumption) | (with_reducible refine Row.new' _ _ _ (by first | rfl | (simp; done) | omega)) | (with_reducible refine Row.alloc ?_ _) | (with_reducible refine Row.drew ?_) | (with_reducible refine Row.drewN ?_ _) | (with_reducible refine Row.step ?_ (by with_reducible assumption)) | (with_reducible refine Row.set2' ?_ _ _; refine ⟨_, _, ?_⟩) | (with_reducible refine Row.other ?_ (by first | omega | (simp; done) | (simp; omega)) _)))
        have c_a_0_4 := R_a_4.cell 0 rfl
        have c_a_1_4 := R_a_4.cell 1 rfl
        have l_a_4 := R_a_4.lt
        have R_b_4 : Row w4 (w.heap.size + 1) [.int .i64 (b0), .int .i64 (b1)] := by (repeat' (first | (with_reducible assumption) | (with_reducible refine Row.new' _ _ _ (by first | rfl | (simp; done) | omega)) | (with_reducible refine Row.alloc ?_ _) | (with_reducible refine Row.drew ?_) | (with_reducible refine Row.drewN ?_ _) | (with_reducible refine Row.step ?_ (by with_reducible assumption)) | (with_reducible refine Row.set2' ?_ _ _; refine ⟨_, _, ?_⟩) | (with_reducible refine Row.other ?_ (by first | omega | (simp; done) | (simp; omega)) _)))
        have c_b_0_4 := R_b_4.cell 0 rfl
        have c_b_1_4 := R_b_4.cell 1 rfl
        have l_b_4 := R_b_4.lt
        have R_c_4 : Row w4 (w.heap.size + 1 + 1) [.int .i64 (c0), .int .i64 (c1)] := by (repeat' (first | (with_reducible assumption) | (with_reducible refine Row.new' _ _ _ (by first | rfl | (simp; done) | omega)) | (with_reducible refine Row.alloc ?_ _) | (with_reducible refine Row.drew ?_) | (with_reducible refine Row.drewN ?_ _) | (with_reducible refine Row.step ?_ (by with_reducible assumption)) | (with_reducible refine Row.set2' ?_ _ _; refine ⟨_, _, ?_⟩) | (with_reducible refine Row.other ?_ (by first | omega | (simp; done) | (simp; omega)) _)))
        have c_c_0_4 := R_c_4.cell 0 rfl
        have c_c_1_4 := R_c_4.cell 1 rfl
        have l_c_4 := R_c_4.lt
        have HB4 : Below w.heap.size w w4 := by (repeat' (first | (with_reducible exact Below.refl _ _) | (with_reducible assumption) | (with_reducible exact Bw.out (by with_reducible assumption)) | (with_reducible refine bw_alloc ?_ _) | (with_reducible refine bw_step ?_ (by with_reducible assumption)) | (with_reducible refine Below.alloc ?_ ?_ _) | (with_reducible refine Below.drew ?_) | (with_reducible refine below_drewN ?_ _) | (with_reducible refine Below.setCell ?_ ?_ _) | (with_reducible refine below_step ?_ (by with_reducible assumption) ?_) | (with_reducible exact Nat.le_refl _) | omega | (simp; omega) | (simp; done)))
        clear R_a_3 c_a_0_3 c_a_1_3 R_b_3 c_b_0_3 c_b_1_3 R_c_3 c_c_0_3 c_c_1_3 hb3 HB3
        go_wp2_with fail
        go_ret
        refine ⟨(by first | rfl | exact ret_bool (by first | rfl | (simp; done) | (simp; omega))), ?_⟩
        (repeat' (first | (with_reducible exact Below.refl _ _) | (with_reducible assumption) | (with_reducible exact Bw.out (by with_reducible assumption)) | (with_reducible refine bw_alloc ?_ _) | (with_reducible refine bw_step ?_ (by with_reducible assumption)) | (with_reducible refine Below.alloc ?_ ?_ _) | (with_reducible refine Below.drew ?_) | (with_reducible refine below_drewN ?_ _) | (with_reducible refine Below.setCell ?_ ?_ _) | (with_reducible refine below_step ?_ (by with_reducible assumption) ?_) | (with_reducible exact Nat.le_refl _) | omega | (simp; omega) | (simp; done)))
    · have eb := vld_false vb
      go_enter Try.func9, Try.ntmps9
      go_wp2_with fail
      refine (head_any _).mono ?_
      rintro e w1 ⟨rfl, hb1⟩
      have R_a_1 : Row w1 (w.heap.size) [.int .i64 (a0), .int .i64 (a1)] := by (repeat' (first | (with_reducible assumption) | (with_reducible refine Row.new' _ _ _ (by first | rfl | (simp; done) | omega)) | (with_reducible refine Row.alloc ?_ _) | (with_reducible refine Row.drew ?_) | (with_reducible refine Row.drewN ?_ _) | (with_reducible refine Row.step ?_ (by with_reducible assumption)) | (with_reducible refine Row.set2' ?_ _ _; refine ⟨_, _, ?_⟩) | (with_reducible refine Row.other ?_ (by first | omega | (simp; done) | (simp; omega)) _)))
      have c_a_0_1 := R_a_1.cell 0 rfl
      have c_a_1_1 := R_a_1.cell 1 rfl
      have l_a_1 := R_a_1.lt
      have R_b_1 : Row w1 (w.heap.size + 1) [.int .i64 (b0), .int .i64 (b1)] := by (repeat' (first | (with_reducible assumption) | (with_reducible refine Row.new' _ _ _ (by first | rfl | (simp; done) | omega)) | (with_reducible refine Row.alloc ?_ _) | (with_reducible refine Row.drew ?_) | (with_reducible refine Row.drewN ?_ _) | (with_reducible refine Row.step ?_ (by with_reducible assumption)) | (with_reducible refine Row.set2' ?_ _ _; refine ⟨_, _, ?_⟩) | (with_reducible refine Row.other ?_ (by first | omega | (simp; done) | (simp; omega)) _)))
      have c_b_0_1 := R_b_1.cell 0 rfl
      have c_b_1_1 := R_b_1.cell 1 rfl
      have l_b_1 := R_b_1.lt
      have R_c_1 : Row w1 (w.heap.size + 1 + 1) [.int .i64 (c0), .int .i64 (c1)] := by (repeat' (first | (with_reducible assumption) | (with_reducible refine Row.new' _ _ _ (by first | rfl | (simp; done) | omega)) | (with_reducible refine Row.alloc ?_ _) | (with_reducible refine Row.drew ?_) | (with_reducible refine Row.drewN ?_ _) | (with_reducible refine Row.step ?_ (by with_reducible assumption)) | (with_reducible refine Row.set2' ?_ _ _; refine ⟨_, _, ?_⟩) | (with_reducible refine Row.other ?_ (by first | omega | (simp; done) | (simp; omega)) _)))
      have c_c_0_1 := R_c_1.cell 0 rfl
      have c_c_1_1 := R_c_1.cell 1 rfl
      have l_c_1 := R_c_1.lt
      have HB1 : Below w.heap.size w w1 := by (repeat' (first | (with_reducible exact Below.refl _ _) | (with_reducible assumption) | (with_reducible exact Bw.out (by with_reducible assumption)) | (with_reducible refine bw_alloc ?_ _) | (with_reducible refine bw_step ?_ (by with_reducible assumption)) | (with_reducible refine Below.alloc ?_ ?_ _) | (with_reducible refine Below.drew ?_) | (with_reducible refine below_drewN ?_ _) | (with_reducible refine Below.setCell ?_ ?_ _) | (with_reducible refine below_step ?_ (by with_reducible assumption) ?_) | (with_reducible exact Nat.le_refl _) | omega | (simp; omega) | (simp; done)))
      go_wp2_with fail
      refine (R_valid_any _ _ _).mono ?_
      rintro e w2 ⟨rfl, hb2⟩
      have R_a_2 : Row w2 (w.heap.size) [.int .i64 (a0), .int .i64 (a1)] := by (repeat' (first | (with_reducible assumption) | (with_reducible refine Row.new' _ _ _ (by first | rfl | (simp; done) | omega)) | (with_reducible refine Row.alloc ?_ _) | (with_reducible refine Row.drew ?_) | (with_reducible refine Row.drewN ?_ _) | (with_reducible refine Row.step ?_ (by with_reducible assumption)) | (with_reducible refine Row.set2' ?_ _ _; refine ⟨_, _, ?_⟩) | (with_reducible refine Row.other ?_ (by first | omega | (simp; done) | (simp; omega)) _)))
      have c_a_0_2 := R_a_2.cell 0 rfl
      have c_a_1_2 := R_a_2.cell 1 rfl
      have l_a_2 := R_a_2.lt
      have R_b_2 : Row w2 (w.heap.size + 1) [.int .i64 (b0), .int .i64 (b1)] := by (repeat' (first | (with_reducible assumption) | (with_reducible refine Row.new' _ _ _ (by first | rfl | (simp; done) | omega)) | (with_reducible refine Row.alloc ?_ _) | (with_reducible refine Row.drew ?_) | (with_reducible refine Row.drewN ?_ _) | (with_reducible refine Row.step ?_ (by with_reducible assumption)) | (with_reducible refine Row.set2' ?_ _ _; refine ⟨_, _, ?_⟩) | (with_reducible refine Row.other ?_ (by first | omega | (simp; done) | (simp; omega)) _)))
      have c_b_0_2 := R_b_2.cell 0 rfl
      have c_b_1_2 := R_b_2.cell 1 rfl
      have l_b_2 := R_b_2.lt
      have R_c_2 : Row w2 (w.heap.size + 1 + 1) [.int .i64 (c0), .int .i64 (c1)] := by (repeat' (first | (with_reducible assumption) | (with_reducible refine Row.new' _ _ _ (by first | rfl | (simp; done) | omega)) | (with_reducible refine Row.alloc ?_ _) | (with_reducible refine Row.drew ?_) | (with_reducible refine Row.drewN ?_ _) | (with_reducible refine Row.step ?_ (by with_reducible assumption)) | (with_reducible refine Row.set2' ?_ _ _; refine ⟨_, _, ?_⟩) | (with_reducible refine Row.other ?_ (by first | omega | (simp; done) | (simp; omega)) _)))
      have c_c_0_2 := R_c_2.cell 0 rfl
      have c_c_1_2 := R_c_2.cell 1 rfl
      have l_c_2 := R_c_2.lt
      have HB2 : Below w.heap.size w w2 := by (repeat' (first | (with_reducible exact Below.refl _ _) | (with_reducible assumption) | (with_reducible exact Bw.out (by with_reducible assumption)) | (with_reducible refine bw_alloc ?_ _) | (with_reducible refine bw_step ?_ (by with_reducible assumption)) | (with_reducible refine Below.alloc ?_ ?_ _) | (with_reducible refine Below.drew ?_) | (with_reducible refine below_drewN ?_ _) | (with_reducible refine Below.setCell ?_ ?_ _) | (with_reducible refine below_step ?_ (by with_reducible assumption) ?_) | (with_reducible exact Nat.le_refl _) | omega | (simp; omega) | (simp; done)))
      clear R_a_1 c_a_0_1 c_a_1_1 R_b_1 c_b_0_1 c_b_1_1 R_c_1 c_c_0_1 c_c_1_1 hb1 HB1
      go_wp2_with fail
      refine (R_valid_any _ _ _).mono ?_
      rintro e w3 ⟨rfl, hb3⟩
      have R_a_3 : Row w3 (w.heap.size) [.int .i64 (a0), .int .i64 (a1)] := by (repeat' (first | (with_reducible assumption) | (with_reducible refine Row.new' _ _ _ (by first | rfl | (simp; done) | omega)) | (with_reducible refine Row.alloc ?_ _) | (with_reducible refine Row.drew ?_) | (with_reducible refine Row.drewN ?_ _) | (with_reducible refine Row.step ?_ (by with_reducible assumption)) | (with_reducible refine Row.set2' ?_ _ _; refine ⟨_, _, ?_⟩) | (with_reducible refine Row.other ?_ (by first | omega | (simp; done) | (simp; omega)) _)))
      have c_a_0_3 := R_a_3.cell 0 rfl
      have c_a_1_3 := R_a_3.cell 1 rfl
      have l_a_3 := R_a_3.lt
      have R_b_3 : Row w3 (w.heap.size + 1) [.int .i64 (b0), .int .i64 (b1)] := by (repeat' (first | (with_reducible assumption) | (with_reducible refine Row.new' _ _ _ (by first | rfl | (simp; done) | omega)) | (with_reducible refine Row.alloc ?_ _) | (with_reducible refine Row.drew ?_) | (with_reducible refine Row.drewN ?_ _) | (with_reducible refine Row.step ?_ (by with_reducible assumption)) | (with_reducible refine Row.set2' ?_ _ _; refine ⟨_, _, ?_⟩) | (with_reducible refine Row.other ?_ (by first | omega | (simp; done) | (simp; omega)) _)))
      have c_b_0_3 := R_b_3.cell 0 rfl
      have c_b_1_3 := R_b_3.cell 1 rfl
      have l_b_3 := R_b_3.lt
      have R_c_3 : Row w3 (w.heap.size + 1 + 1) [.int .i64 (c0), .int .i64 (c1)] := by (repeat' (first | (with_reducible assumption) | (with_reducible refine Row.new' _ _ _ (by first | rfl | (simp; done) | omega)) | (with_reducible refine Row.alloc ?_ _) | (with_reducible refine Row.drew ?_) | (with_reducible refine Row.drewN ?_ _) | (with_reducible refine Row.step ?_ (by with_reducible assumption)) | (with_reducible refine Row.set2' ?_ _ _; refine ⟨_, _, ?_⟩) | (with_reducible refine Row.other ?_ (by first | omega | (simp; done) | (simp; omega)) _)))
      have c_c_0_3 := R_c_3.cell 0 rfl
      have c_c_1_3 := R_c_3.cell 1 rfl
      have l_c_3 := R_c_3.lt
      have HB3 : Below w.heap.size w w3 := by (repeat' (first | (with_reducible exact Below.refl _ _) | (with_reducible assumption) | (with_reducible exact Bw.out (by with_reducible assumption)) | (with_reducible refine bw_alloc ?_ _) | (with_reducible refine bw_step ?_ (by with_reducible assumption)) | (with_reducible refine Below.alloc ?_ ?_ _) | (with_reducible refine Below.drew ?_) | (with_reducible refine below_drewN ?_ _) | (with_reducible refine Below.setCell ?_ ?_ _) | (with_reducible refine below_step ?_ (by with_reducible assumption) ?_) | (with_reducible exact Nat.le_refl _) | omega | (simp; omega) | (simp; done)))
      clear R_a_2 c_a_0_2 c_a_1_2 R_b_2 c_b_0_2 c_b_1_2 R_c_2 c_c_0_2 c_c_1_2 hb2 HB2
      go_wp2_with fail
      go_ret
      refine ⟨(by first | rfl | exact ret_bool (by first | rfl | (simp; done) | (simp; omega))), ?_⟩
      (repeat' (first | (with_reducible exact Below.refl _ _) | (with_reducible assumption) | (with_reducible exact Bw.out (by with_reducible assumption)) | (with_reducible refine bw_alloc ?_ _) | (with_reducible refine bw_step ?_ (by with_reducible assumption)) | (with_reducible refine Below.alloc ?_ ?_ _) | (with_reducible refine Below.drew ?_) | (with_reducible refine below_drewN ?_ _) | (with_reducible refine Below.setCell ?_ ?_ _) | (with_reducible refine below_step ?_ (by with_reducible assumption) ?_) | (with_reducible exact Nat.le_refl _) | omega | (simp; omega) | (simp; done)))
  · have ea := vld_false va
    go_enter Try.func9, Try.ntmps9
    go_wp2_with fail
    refine (head_any _).mono ?_
    rintro e w1 ⟨rfl, hb1⟩
    have R_a_1 : Row w1 (w.heap.size) [.int .i64 (a0), .int .i64 (a1)] := by (repeat' (first | (with_reducible assumption) | (with_reducible refine Row.new' _ _ _ (by first | rfl | (simp; done) | omega)) | (with_reducible refine Row.alloc ?_ _) | (with_reducible refine Row.drew ?_) | (with_reducible refine Row.drewN ?_ _) | (with_reducible refine Row.step ?_ (by with_reducible assumption)) | (with_reducible refine Row.set2' ?_ _ _; refine ⟨_, _, ?_⟩) | (with_reducible refine Row.other ?_ (by first | omega | (simp; done) | (simp; omega)) _)))
    have c_a_0_1 := R_a_1.cell 0 rfl
    have c_a_1_1 := R_a_1.cell 1 rfl
    have l_a_1 := R_a_1.lt
    have R_b_1 : Row w1 (w.heap.size + 1) [.int .i64 (b0), .int .i64 (b1)] := by (repeat' (first | (with_reducible assumption) | (with_reducible refine Row.new' _ _ _ (by first | rfl | (simp; done) | omega)) | (with_reducible refine Row.alloc ?_ _) | (with_reducible refine Row.drew ?_) | (with_reducible refine Row.drewN ?_ _) | (with_reducible refine Row.step ?_ (by with_reducible assumption)) | (with_reducible refine Row.set2' ?_ _ _; refine ⟨_, _, ?_⟩) | (with_reducible refine Row.other ?_ (by first | omega | (simp; done) | (simp; omega)) _)))
    have c_b_0_1 := R_b_1.cell 0 rfl
    have c_b_1_1 := R_b_1.cell 1 rfl
    have l_b_1 := R_b_1.lt
    have R_c_1 : Row w1 (w.heap.size + 1 + 1) [.int .i64 (c0), .int .i64 (c1)] := by (repeat' (first | (with_reducible assumption) | (with_reducible refine Row.new' _ _ _ (by first | rfl | (simp; done) | omega)) | (with_reducible refine Row.alloc ?_ _) | (with_reducible refine Row.drew ?_) | (with_reducible refine Row.drewN ?_ _) | (with_reducible refine Row.step ?_ (by with_reducible assumption)) | (with_reducible refine Row.set2' ?_ _ _; refine ⟨_, _, ?_⟩) | (with_reducible refine Row.other ?_ (by first | omega | (simp; done) | (simp; omega)) _)))
    have c_c_0_1 := R_c_1.cell 0 rfl
    have c_c_1_1 := R_c_1.cell 1 rfl
    have l_c_1 := R_c_1.lt
    have HB1 : Below w.heap.size w w1 := by (repeat' (first | (with_reducible exact Below.refl _ _) | (with_reducible assumption) | (with_reducible exact Bw.out (by with_reducible assumption)) | (with_reducible refine bw_alloc ?_ _) | (with_reducible refine bw_step ?_ (by with_reducible assumption)) | (with_reducible refine Below.alloc ?_ ?_ _) | (with_reducible refine Below.drew ?_) | (with_reducible refine below_drewN ?_ _) | (with_reducible refine Below.setCell ?_ ?_ _) | (with_reducible refine below_step ?_ (by with_reducible assumption) ?_) | (with_reducible exact Nat.le_refl _) | omega | (simp; omega) | (simp; done)))
    go_wp2_with fail
    refine (R_valid_any _ _ _).mono ?_
    rintro e w2 ⟨rfl, hb2⟩
    have R_a_2 : Row w2 (w.heap.size) [.int .i64 (a0), .int .i64 (a1)] := by (repeat' (first | (with_reducible assumption) | (with_reducible refine Row.new' _ _ _ (by first | rfl | (simp; done) | omega)) | (with_reducible refine Row.alloc ?_ _) | (with_reducible refine Row.drew ?_) | (with_reducible refine Row.drewN ?_ _) | (with_reducible refine Row.step ?_ (by with_reducible assumption)) | (with_reducible refine Row.set2' ?_ _ _; refine ⟨_, _, ?_⟩) | (with_reducible refine Row.other ?_ (by first | omega | (simp; done) | (simp; omega)) _)))
    have c_a_0_2 := R_a_2.cell 0 rfl
    have c_a_1_2 := R_a_2.cell 1 rfl
    have l_a_2 := R_a_2.lt
    have R_b_2 : Row w2 (w.heap.size + 1) [.int .i64 (b0), .int .i64 (b1)] := by (repeat' (first | (with_reducible assumption) | (with_reducible refine Row.new' _ _ _ (by first | rfl | (simp; done) | omega)) | (with_reducible refine Row.alloc ?_ _) | (with_reducible refine Row.drew ?_) | (with_reducible refine Row.drewN ?_ _) | (with_reducible refine Row.step ?_ (by with_reducible assumption)) | (with_reducible refine Row.set2' ?_ _ _; refine ⟨_, _, ?_⟩) | (with_reducible refine Row.other ?_ (by first | omega | (simp; done) | (simp; omega)) _)))
    have c_b_0_2 := R_b_2.cell 0 rfl
    have c_b_1_2 := R_b_2.cell 1 rfl
    have l_b_2 := R_b_2.lt
    have R_c_2 : Row w2 (w.heap.size + 1 + 1) [.int .i64 (c0), .int .i64 (c1)] := by (repeat' (first | (with_reducible assumption) | (with_reducible refine Row.new' _ _ _ (by first | rfl | (simp; done) | omega)) | (with_reducible refine Row.alloc ?_ _) | (with_reducible refine Row.drew ?_) | (with_reducible refine Row.drewN ?_ _) | (with_reducible refine Row.step ?_ (by with_reducible assumption)) | (with_reducible refine Row.set2' ?_ _ _; refine ⟨_, _, ?_⟩) | (with_reducible refine Row.other ?_ (by first | omega | (simp; done) | (simp; omega)) _)))
    have c_c_0_2 := R_c_2.cell 0 rfl
    have c_c_1_2 := R_c_2.cell 1 rfl
    have l_c_2 := R_c_2.lt
    have HB2 : Below w.heap.size w w2 := by (repeat' (first | (with_reducible exact Below.refl _ _) | (with_reducible assumption) | (with_reducible exact Bw.out (by with_reducible assumption)) | (with_reducible refine bw_alloc ?_ _) | (with_reducible refine bw_step ?_ (by with_reducible assumption)) | (with_reducible refine Below.alloc ?_ ?_ _) | (with_reducible refine Below.drew ?_) | (with_reducible refine below_drewN ?_ _) | (with_reducible refine Below.setCell ?_ ?_ _) | (with_reducible refine below_step ?_ (by with_reducible assumption) ?_) | (with_reducible exact Nat.le_refl _) | omega | (simp; omega) | (simp; done)))
    clear R_a_1 c_a_0_1 c_a_1_1 R_b_1 c_b_0_1 c_b_1_1 R_c_1 c_c_0_1 c_c_1_1 hb1 HB1
    go_wp2_with fail
    go_ret
    refine ⟨(by first | rfl | exact ret_bool (by first | rfl | (simp; done) | (simp; omega))), ?_⟩
    (repeat' (first | (with_reducible exact Below.refl _ _) | (with_reducible assumption) | (with_reducible exact Bw.out (by with_reducible assumption)) | (with_reducible refine bw_alloc ?_ _) | (with_reducible refine bw_step ?_ (by with_reducible assumption)) | (with_reducible refine Below.alloc ?_ ?_ _) | (with_reducible refine Below.drew ?_) | (with_reducible refine below_drewN ?_ _) | (with_reducible refine Below.setCell ?_ ?_ _) | (with_reducible refine below_step ?_ (by with_reducible assumption) ?_) | (with_reducible exact Nat.le_refl _) | omega | (simp; omega) | (simp; done)))


set_option maxRecDepth 100000 in
theorem ratioOrder_lifted (os : Os) (started : os.Started) (H : Type) (enc : TypeId × Value → H) :
    ReturnsInHanded {} Try.checked os 9 .any (Rows.ratioOrderSpec.pre6 enc Try.prog Try.f9 Rows.ratioOrderRow.domain false) (Rows.ratioOrderSpec.post enc Try.prog Try.f9 false true false false) := by
  refine returnsInHanded_of_change (C := Try.checked) own started (by kernel_rfl) Try.func9
    (ChangeSpec.witness6 (enc := enc) (C := Try.checked) false ⟨#[], #[.agg #[.int .i64 0, .int .i64 0], .agg #[.int .i64 0, .int .i64 0], .agg #[.int .i64 0, .int .i64 0]], []⟩ 8 (by kernel_rfl) (by kernel_rfl) (by kernel_rfl) (by kernel_rfl)) ?_
  intro W base args ds gs before hval0 hW _ _
  have hval : ∀ (j : Nat) t v, Try.f9.params[j]? = some t → args[j]? = some v → Value.okWide Try.prog W .any base t v := hval0
  have hW' := hW
  obtain ⟨p, q, hA0, hV, rfl, hfz, hnd⟩ := hW
  obtain ⟨rfl, rfl⟩ := trodVars_none hV
  have hA : DataW.TrodAll enc Try.prog W 0 (fun _ => true) true Try.f9.params.toList args.toList ds p := hA0
  rw [Try.params9] at hA hval
  obtain ⟨v0, vs0, d0, ds0, p0, q0, hargs, rfl, rfl, h0, r0⟩ := trodAll_cons hA
  obtain ⟨v1, vs1, d1, ds1, p1, q1, rfl, rfl, rfl, h1, r1⟩ := trodAll_cons r0
  obtain ⟨v2, vs2, d2, ds2, p2, q2, rfl, rfl, rfl, h2, r2⟩ := trodAll_cons r1
  obtain ⟨rfl, rfl, rfl⟩ := trodAll_nil r2
  obtain rfl : args = #[v0, v1, v2] := by cases args; simp_all
  obtain ⟨c00, c01, y00, y01, m0, rfl, rfl, rfl, hy00, hy01⟩ := Go.Joins.open_agg2 Try.underlying24 (by kernel_rfl) (by kernel_rfl) (hval 0 24 v0 rfl rfl) h0
  obtain ⟨a0, e00, rfl, wa0⟩ := DataW.trod_int Try.underlying3 hy00
  simp only [List.cons.injEq, and_true] at e00
  subst e00
  obtain ⟨a1, e01, rfl, wa1⟩ := DataW.trod_int Try.underlying3 hy01
  simp only [List.cons.injEq, and_true] at e01
  subst e01
  obtain ⟨c10, c11, y10, y11, m1, rfl, rfl, rfl, hy10, hy11⟩ := Go.Joins.open_agg2 Try.underlying24 (by kernel_rfl) (by kernel_rfl) (hval 1 24 v1 rfl rfl) h1
  obtain ⟨b0, e10, rfl, wb0⟩ := DataW.trod_int Try.underlying3 hy10
  simp only [List.cons.injEq, and_true] at e10
  subst e10
  obtain ⟨b1, e11, rfl, wb1⟩ := DataW.trod_int Try.underlying3 hy11
  simp only [List.cons.injEq, and_true] at e11
  subst e11
  obtain ⟨c20, c21, y20, y21, m2, rfl, rfl, rfl, hy20, hy21⟩ := Go.Joins.open_agg2 Try.underlying24 (by kernel_rfl) (by kernel_rfl) (hval 2 24 v2 rfl rfl) h2
  obtain ⟨c0, e20, rfl, wc0⟩ := DataW.trod_int Try.underlying3 hy20
  simp only [List.cons.injEq, and_true] at e20
  subst e20
  obtain ⟨c1, e21, rfl, wc1⟩ := DataW.trod_int Try.underlying3 hy21
  simp only [List.cons.injEq, and_true] at e21
  subst e21
  clear hA0 hval0
  refine (order_walk a0 a1 b0 b1 c0 c1 wa0 wa1 wb0 wb1 wc0 wc1 W).mono fun e W' ⟨he, hb⟩ => ?_
  subst he
  exact ⟨_, rfl, law_post (B := 4) laidOut (by rw [Try.params9]; simp only [List.mem_cons, List.not_mem_nil, or_false, forall_eq_or_imp, forall_eq]; first | exact readable_ratioOrder | (repeat' apply And.intro) <;> first | exact of_decide_eq_true (by kernel_rfl) | kernel_rfl) rfl Try.underlying4 rfl rfl hW' hb⟩

theorem ratioOrder_over : Rows.ratioOrderRow.holds Try.pinned (OpenSpec.ofChange Rows.ratioOrderSpec) :=
  OpenClaim.holds_of_wide 9 Try.f9 rfl rfl rfl rfl rfl rfl rfl ⟨rfl, rfl, rfl, rfl, rfl⟩ rfl rfl rfl rfl rfl (by kernel_rfl) Try.func9 (by kernel_rfl)
    (of_decide_eq_true (by kernel_rfl)) (by unfold Func.isWrapper; first | (rw [if_pos (by decide +kernel)]; kernel_rfl) | (rw [if_neg (by decide +kernel)]; exact ⟨rfl, rfl⟩))
    (fun os started H enc _ => ratioOrder_lifted os started H enc)

theorem ratioOrder_holds : Rows.RatioOrderSaid := ratioOrder_over
#print axioms ratioOrder_holds
end Go.Proofs.Ytmndiejojlmblaa
