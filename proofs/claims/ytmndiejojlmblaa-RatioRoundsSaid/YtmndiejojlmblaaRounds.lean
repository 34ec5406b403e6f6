/-
  RatioRounds: a ratio lies between its values rounded down and up, which differ by 1, or are the same for an integer; the nearest one is one of them, at most half away, and even if both are equally near; the negative of a ratio is rounded the other way round.
  No condition: for every input.
-/
import Derived.Test.YtmndiejojlmblaaRatS
import Derived.Test.YtmndiejojlmblaaLaw
namespace Go.Proofs.Ytmndiejojlmblaa
set_option linter.unusedSimpArgs false
set_option linter.unusedVariables false
open Go.ChangeShapes Go.WideShapes Go.ChangeAt Go.RowKit

theorem Round_v (a b way v : Int) (w : World) (h : vldP a b) (h1 : 1 ≤ way) (h2 : way ≤ 3) (hv : rnd way a b = v) :
    Calls Try.prog 16 #[.agg #[.int .i64 a, .int .i64 b], .int .i64 way] w fun e w' =>
      e = .returned (.tuple #[.int .i64 v, .int .i64 0]) ∧ Below w.heap.size w w' := by
  have k := Round_any a b way w
  obtain ⟨o1, o2⟩ := rd_ok ⟨h, h1, h2⟩
  rwa [o1, o2, hv] at k

theorem dvd_one {n d : Int} (h : vldP n d) (h0 : n % d = 0) : d = 1 := by
  have h1 : d ∣ (Int.gcd n d : Int) := Int.dvd_coe_gcd (Int.dvd_of_emod_eq_zero h0) (Int.dvd_refl d)
  have h2 : (Int.gcd n d : Int) = 1 := h.2.2.2.2
  rw [h2] at h1
  exact Int.eq_one_of_dvd_one (by have := h.1; omega) h1

theorem vld_neg {n d : Int} (h : vldP n d) : vldP (-n) d := by
  obtain ⟨h1, h2, h3, h4, h5⟩ := h
  exact ⟨h1, h2, by omega, by omega, by unfold gI at h5 ⊢; rw [Int.neg_gcd]; exact h5⟩

/-- The floor and the rest of -n. -/
theorem neg_div {n d q r : Int} (_hd : 1 ≤ d) (hn : n = q * d + r) (h0 : 0 < r) (h1 : r < d) : (-n) / d = -(q + 1) ∧ (-n) % d = d - r := by
  have e : -n = (d - r) + (-(q + 1)) * d := by rw [hn, Int.neg_mul, Int.add_mul, Int.one_mul]; omega
  constructor
  · rw [e, Int.add_mul_ediv_right _ _ (by omega), Int.ediv_eq_zero_of_lt (by omega) (by omega)]; omega
  · rw [e, Int.add_mul_emod_self_right, Int.emod_eq_of_lt (by omega) (by omega)]

/-- All that is needed of the six values. -/
def Six (n d : Int) (x1 x2 x3 y1 y2 y3 : Int) : Prop := rnd 1 n d = x1 ∧ rnd 2 n d = x2 ∧ rnd 3 n d = x3 ∧ rnd 1 (-n) d = y1 ∧ rnd 2 (-n) d = y2 ∧ rnd 3 (-n) d = y3

theorem six_cases (n d : Int) (hv : vldP n d) :
    (d = 1 ∧ Six n d n n n (-n) (-n) (-n)) ∨
    (∃ q r, n = q * d + r ∧ 0 < r ∧ r < d ∧
      ((2 * r < d ∧ Six n d q (q + 1) q (-(q + 1)) (-q) (-q)) ∨ (d < 2 * r ∧ Six n d q (q + 1) (q + 1) (-(q + 1)) (-q) (-(q + 1))) ∨
       (2 * r = d ∧ q % 2 = 1 ∧ Six n d q (q + 1) (q + 1) (-(q + 1)) (-q) (-(q + 1))) ∨ (2 * r = d ∧ q % 2 = 0 ∧ Six n d q (q + 1) q (-(q + 1)) (-q) (-q)))) := by
  have hd := hv.1
  have h1 := Int.mul_ediv_add_emod n d
  have h2 := Int.emod_lt_of_pos n (show 0 < d by omega)
  have h3 := Int.emod_nonneg n (show d ≠ 0 by omega)
  have h4 : d * (n / d) = n / d * d := Int.mul_comm _ _
  by_cases h0 : n % d = 0
  · have hd1 := dvd_one hv h0
    subst hd1
    refine Or.inl ⟨rfl, ?_⟩
    have e1 : ∀ k m : Int, rnd k m 1 = m := by
      intro k m
      have : nxB k (m / 1) (m % 1) 1 = false := by
        rw [Int.emod_one]; unfold nxB; split
        · rfl
        · split <;> simp
      unfold rnd; rw [if_neg (by rw [this]; simp), Int.ediv_one]
    exact ⟨e1 _ _, e1 _ _, e1 _ _, e1 _ _, e1 _ _, e1 _ _⟩
  · refine Or.inr ⟨n / d, n % d, by omega, by omega, h2, ?_⟩
    obtain ⟨n1, n2⟩ := neg_div (n := n) (q := n / d) (r := n % d) hd (by omega) (by omega) h2
    have a1 : rnd 1 n d = n / d := rnd_dn rfl rfl (nxB_1 _ _ _)
    have a2 : rnd 2 n d = n / d + 1 := rnd_up rfl rfl (by rw [nxB_2]; simp; omega)
    have a3 : rnd 1 (-n) d = -(n / d + 1) := by rw [← n1]; exact rnd_dn rfl rfl (nxB_1 _ _ _)
    have a4 : rnd 2 (-n) d = -(n / d) := by
      have := rnd_up (way := 2) (n := -n) (d := d) rfl rfl (by rw [nxB_2, n2]; simp; omega)
      rw [this, n1]; omega
    have p1 : nxB 3 (n / d) (n % d) d = true → rnd 3 n d = n / d + 1 := fun h => rnd_up rfl rfl h
    have p2 : nxB 3 (n / d) (n % d) d = false → rnd 3 n d = n / d := fun h => rnd_dn rfl rfl h
    have p3 : nxB 3 (-(n / d + 1)) (d - n % d) d = true → rnd 3 (-n) d = -(n / d) := fun h => by
      have := rnd_up (way := 3) (n := -n) (d := d) n1.symm n2.symm h
      rw [this]; omega
    have p4 : nxB 3 (-(n / d + 1)) (d - n % d) d = false → rnd 3 (-n) d = -(n / d + 1) := fun h => rnd_dn (way := 3) (n := -n) (d := d) n1.symm n2.symm h
    by_cases c1 : 2 * (n % d) < d
    · refine Or.inl ⟨c1, a1, a2, p2 ?_, a3, a4, p3 ?_⟩
      · rw [nxB_3]; simp; omega
      · rw [nxB_3]; simp; omega
    · by_cases c2 : d < 2 * (n % d)
      · refine Or.inr (Or.inl ⟨c2, a1, a2, p1 ?_, a3, a4, p4 ?_⟩)
        · rw [nxB_3]; simp; omega
        · rw [nxB_3]; simp; omega
      · by_cases c3 : n / d % 2 = 1
        · refine Or.inr (Or.inr (Or.inl ⟨by omega, c3, a1, a2, p1 ?_, a3, a4, p4 ?_⟩))
          · rw [nxB_3]; simp; omega
          · rw [nxB_3]; simp; omega
        · refine Or.inr (Or.inr (Or.inr ⟨by omega, by omega, a1, a2, p2 ?_, a3, a4, p3 ?_⟩))
          · rw [nxB_3]; simp; omega
          · rw [nxB_3]; simp; omega


set_option maxRecDepth 100000 in
set_option maxHeartbeats 4000000 in
theorem rounds_walk (a0 a1 : Int) (_ : (Lit.int .i64 a0).wf = true) (_ : (Lit.int .i64 a1).wf = true) (w : World) :
    Calls Try.prog 5 #[.agg #[.int .i64 a0, .int .i64 a1]] w fun e w' => e = .returned (.bool true) ∧ Below w.heap.size w w' := by
  by_cases va : vldP a0 a1
  · have ea := vld_true va
    have vb := vld_neg va
    obtain ⟨p1, p2, p3, p4, _⟩ := id va
    rcases six_cases a0 a1 va with ⟨hd1, s1, s2, s3, s4, s5, s6⟩ | ⟨q, r, hn, r0, r1, h⟩
    · have hd2 : (a1 == 1) = true := by simpa using hd1
      have hp1 : a0 * a1 = a0 := by rw [hd1, Int.mul_one]
      have hp2 : a0 * a1 ≤ a0 := by omega
      have hp3 : a0 ≤ a0 * a1 := by omega
      clear hd1 hp1
      go_enter Try.func5, Try.ntmps5
      go_wp2_with fail
      refine (head_any _).mono ?_
      rintro e w1 ⟨rfl, hb1⟩
      have Ra1 : Row w1 w.heap.size [.int .i64 a0, .int .i64 a1] := by (repeat' (first | (with_reducible assumption) | (with_reducible refine Row.new' _ _ _ (by first | rfl | (simp; done) | omega)) | (with_reducible refine Row.alloc ?_ _) | (with_reducible refine Row.drew ?_) | (with_reducible refine Row.drewN ?_ _) | (with_reducible refine Row.step ?_ (by with_reducible assumption))))
      have ca01 := Ra1.cell 0 rfl
      have ca11 := Ra1.cell 1 rfl
      have la1 := Ra1.lt
      go_wp2_with fail
      refine (R_valid_any _ _ _).mono ?_
      rintro e w2 ⟨rfl, hb2⟩
      have Ra2 : Row w2 w.heap.size [.int .i64 a0, .int .i64 a1] := by (repeat' (first | (with_reducible assumption) | (with_reducible refine Row.new' _ _ _ (by first | rfl | (simp; done) | omega)) | (with_reducible refine Row.alloc ?_ _) | (with_reducible refine Row.drew ?_) | (with_reducible refine Row.drewN ?_ _) | (with_reducible refine Row.step ?_ (by with_reducible assumption))))
      have ca02 := Ra2.cell 0 rfl
      have ca12 := Ra2.cell 1 rfl
      have la2 := Ra2.lt
      go_wp2_with fail
      refine (law_rat_any _ _ _).mono ?_
      rintro e w3 ⟨rfl, hb3⟩
      have Ra3 : Row w3 w.heap.size [.int .i64 a0, .int .i64 a1] := by (repeat' (first | (with_reducible assumption) | (with_reducible refine Row.new' _ _ _ (by first | rfl | (simp; done) | omega)) | (with_reducible refine Row.alloc ?_ _) | (with_reducible refine Row.drew ?_) | (with_reducible refine Row.drewN ?_ _) | (with_reducible refine Row.step ?_ (by with_reducible assumption))))
      have ca03 := Ra3.cell 0 rfl
      have ca13 := Ra3.cell 1 rfl
      have la3 := Ra3.lt
      go_wp2_with fail
      refine (Round_v a0 a1 1 (a0) _ va (by omega) (by omega) s1).mono ?_
      rintro e w4 ⟨rfl, hb4⟩
      have Ra4 : Row w4 w.heap.size [.int .i64 a0, .int .i64 a1] := by (repeat' (first | (with_reducible assumption) | (with_reducible refine Row.new' _ _ _ (by first | rfl | (simp; done) | omega)) | (with_reducible refine Row.alloc ?_ _) | (with_reducible refine Row.drew ?_) | (with_reducible refine Row.drewN ?_ _) | (with_reducible refine Row.step ?_ (by with_reducible assumption))))
      have ca04 := Ra4.cell 0 rfl
      have ca14 := Ra4.cell 1 rfl
      have la4 := Ra4.lt
      have Rb4 : Row w4 w3.heap.size [.int .i64 (-a0), .int .i64 a1] := by (repeat' (first | (with_reducible assumption) | (with_reducible refine Row.new' _ _ _ (by first | rfl | (simp; done) | omega)) | (with_reducible refine Row.alloc ?_ _) | (with_reducible refine Row.drew ?_) | (with_reducible refine Row.drewN ?_ _) | (with_reducible refine Row.step ?_ (by with_reducible assumption))))
      have cb04 := Rb4.cell 0 rfl
      have cb14 := Rb4.cell 1 rfl
      have lb4 := Rb4.lt
      go_wp2_with fail
      refine (Round_v a0 a1 2 (a0) _ va (by omega) (by omega) s2).mono ?_
      rintro e w5 ⟨rfl, hb5⟩
      have Ra5 : Row w5 w.heap.size [.int .i64 a0, .int .i64 a1] := by (repeat' (first | (with_reducible assumption) | (with_reducible refine Row.new' _ _ _ (by first | rfl | (simp; done) | omega)) | (with_reducible refine Row.alloc ?_ _) | (with_reducible refine Row.drew ?_) | (with_reducible refine Row.drewN ?_ _) | (with_reducible refine Row.step ?_ (by with_reducible assumption))))
      have ca05 := Ra5.cell 0 rfl
      have ca15 := Ra5.cell 1 rfl
      have la5 := Ra5.lt
      have Rb5 : Row w5 w3.heap.size [.int .i64 (-a0), .int .i64 a1] := by (repeat' (first | (with_reducible assumption) | (with_reducible refine Row.new' _ _ _ (by first | rfl | (simp; done) | omega)) | (with_reducible refine Row.alloc ?_ _) | (with_reducible refine Row.drew ?_) | (with_reducible refine Row.drewN ?_ _) | (with_reducible refine Row.step ?_ (by with_reducible assumption))))
      have cb05 := Rb5.cell 0 rfl
      have cb15 := Rb5.cell 1 rfl
      have lb5 := Rb5.lt
      go_wp2_with fail
      refine (Round_v a0 a1 3 (a0) _ va (by omega) (by omega) s3).mono ?_
      rintro e w6 ⟨rfl, hb6⟩
      have Ra6 : Row w6 w.heap.size [.int .i64 a0, .int .i64 a1] := by (repeat' (first | (with_reducible assumption) | (with_reducible refine Row.new' _ _ _ (by first | rfl | (simp; done) | omega)) | (with_reducible refine Row.alloc ?_ _) | (with_reducible refine Row.drew ?_) | (with_reducible refine Row.drewN ?_ _) | (with_reducible refine Row.step ?_ (by with_reducible assumption))))
      have ca06 := Ra6.cell 0 rfl
      have ca16 := Ra6.cell 1 rfl
      have la6 := Ra6.lt
      have Rb6 : Row w6 w3.heap.size [.int .i64 (-a0), .int .i64 a1] := by (repeat' (first | (with_reducible assumption) | (with_reducible refine Row.new' _ _ _ (by first | rfl | (simp; done) | omega)) | (with_reducible refine Row.alloc ?_ _) | (with_reducible refine Row.drew ?_) | (with_reducible refine Row.drewN ?_ _) | (with_reducible refine Row.step ?_ (by with_reducible assumption))))
      have cb06 := Rb6.cell 0 rfl
      have cb16 := Rb6.cell 1 rfl
      have lb6 := Rb6.lt
      go_wp2_with fail
      refine (Round_v (-a0) a1 1 (-a0) _ vb (by omega) (by omega) s4).mono ?_
      rintro e w7 ⟨rfl, hb7⟩
      have Ra7 : Row w7 w.heap.size [.int .i64 a0, .int .i64 a1] := by (repeat' (first | (with_reducible assumption) | (with_reducible refine Row.new' _ _ _ (by first | rfl | (simp; done) | omega)) | (with_reducible refine Row.alloc ?_ _) | (with_reducible refine Row.drew ?_) | (with_reducible refine Row.drewN ?_ _) | (with_reducible refine Row.step ?_ (by with_reducible assumption))))
      have ca07 := Ra7.cell 0 rfl
      have ca17 := Ra7.cell 1 rfl
      have la7 := Ra7.lt
      have Rb7 : Row w7 w3.heap.size [.int .i64 (-a0), .int .i64 a1] := by (repeat' (first | (with_reducible assumption) | (with_reducible refine Row.new' _ _ _ (by first | rfl | (simp; done) | omega)) | (with_reducible refine Row.alloc ?_ _) | (with_reducible refine Row.drew ?_) | (with_reducible refine Row.drewN ?_ _) | (with_reducible refine Row.step ?_ (by with_reducible assumption))))
      have cb07 := Rb7.cell 0 rfl
      have cb17 := Rb7.cell 1 rfl
      have lb7 := Rb7.lt
      go_wp2_with fail
      refine (Round_v (-a0) a1 2 (-a0) _ vb (by omega) (by omega) s5).mono ?_
      rintro e w8 ⟨rfl, hb8⟩
      have Ra8 : Row w8 w.heap.size [.int .i64 a0, .int .i64 a1] := by (repeat' (first | (with_reducible assumption) | (with_reducible refine Row.new' _ _ _ (by first | rfl | (simp; done) | omega)) | (with_reducible refine Row.alloc ?_ _) | (with_reducible refine Row.drew ?_) | (with_reducible refine Row.drewN ?_ _) | (with_reducible refine Row.step ?_ (by with_reducible assumption))))
      have ca08 := Ra8.cell 0 rfl
      have ca18 := Ra8.cell 1 rfl
      have la8 := Ra8.lt
      have Rb8 : Row w8 w3.heap.size [.int .i64 (-a0), .int .i64 a1] := by (repeat' (first | (with_reducible assumption) | (with_reducible refine Row.new' _ _ _ (by first | rfl | (simp; done) | omega)) | (with_reducible refine Row.alloc ?_ _) | (with_reducible refine Row.drew ?_) | (with_reducible refine Row.drewN ?_ _) | (with_reducible refine Row.step ?_ (by with_reducible assumption))))
      have cb08 := Rb8.cell 0 rfl
      have cb18 := Rb8.cell 1 rfl
      have lb8 := Rb8.lt
      go_wp2_with fail
      refine (Round_v (-a0) a1 3 (-a0) _ vb (by omega) (by omega) s6).mono ?_
      rintro e w9 ⟨rfl, hb9⟩
      have Ra9 : Row w9 w.heap.size [.int .i64 a0, .int .i64 a1] := by (repeat' (first | (with_reducible assumption) | (with_reducible refine Row.new' _ _ _ (by first | rfl | (simp; done) | omega)) | (with_reducible refine Row.alloc ?_ _) | (with_reducible refine Row.drew ?_) | (with_reducible refine Row.drewN ?_ _) | (with_reducible refine Row.step ?_ (by with_reducible assumption))))
      have ca09 := Ra9.cell 0 rfl
      have ca19 := Ra9.cell 1 rfl
      have la9 := Ra9.lt
      go_wp2_with fail
      go_ret
      refine ⟨rfl, ?_⟩
      (repeat' (first | (with_reducible exact Below.refl _ _) | (with_reducible assumption) | (with_reducible exact Bw.out (by with_reducible assumption)) | (with_reducible refine bw_alloc ?_ _) | (with_reducible refine bw_step ?_ (by with_reducible assumption)) | (with_reducible refine Below.alloc ?_ ?_ _) | (with_reducible refine Below.drew ?_) | (with_reducible refine below_drewN ?_ _) | (with_reducible refine Below.setCell ?_ ?_ _) | (with_reducible refine below_step ?_ (by with_reducible assumption) ?_) | (with_reducible exact Nat.le_refl _) | omega | (simp; omega) | (simp; done)))
    · have hq1 : q * a1 < a0 := by omega
      have hq2 : a0 - a1 < q * a1 := by omega
      have hq3 : (q + 1) * a1 = q * a1 + a1 := by rw [Int.add_mul, Int.one_mul]
      have hd1 : (a1 == 1) = false := by simp; omega
      have hb1 : -1002000000 ≤ q := by
        rcases Int.lt_or_le q 0 with hx | hx
        · have := Int.mul_le_mul_of_nonneg_left (c := -q) (show 1 ≤ a1 by omega) (by omega)
          simp only [Int.neg_mul, Int.mul_one] at this; omega
        · omega
      have hb2 : q ≤ 1000000000 := by
        rcases Int.lt_or_le q 0 with hx | hx
        · omega
        · have := Int.mul_le_mul_of_nonneg_left (c := q) (show 1 ≤ a1 by omega) hx
          omega
      have HN := Lib.hid hn
      clear hn
      rcases h with ⟨c, s1, s2, s3, s4, s5, s6⟩ | ⟨c, s1, s2, s3, s4, s5, s6⟩ | ⟨c, c2, s1, s2, s3, s4, s5, s6⟩ | ⟨c, c2, s1, s2, s3, s4, s5, s6⟩
      · have f1 : 2 * (a0 - q * a1) < a1 := by have := HN.out; omega
        have f2 : -a1 < 2 * (a0 - q * a1) := by omega
        go_enter Try.func5, Try.ntmps5
        go_wp2_with fail
        refine (head_any _).mono ?_
        rintro e w1 ⟨rfl, hb1⟩
        have Ra1 : Row w1 w.heap.size [.int .i64 a0, .int .i64 a1] := by (repeat' (first | (with_reducible assumption) | (with_reducible refine Row.new' _ _ _ (by first | rfl | (simp; done) | omega)) | (with_reducible refine Row.alloc ?_ _) | (with_reducible refine Row.drew ?_) | (with_reducible refine Row.drewN ?_ _) | (with_reducible refine Row.step ?_ (by with_reducible assumption))))
        have ca01 := Ra1.cell 0 rfl
        have ca11 := Ra1.cell 1 rfl
        have la1 := Ra1.lt
        go_wp2_with fail
        refine (R_valid_any _ _ _).mono ?_
        rintro e w2 ⟨rfl, hb2⟩
        have Ra2 : Row w2 w.heap.size [.int .i64 a0, .int .i64 a1] := by (repeat' (first | (with_reducible assumption) | (with_reducible refine Row.new' _ _ _ (by first | rfl | (simp; done) | omega)) | (with_reducible refine Row.alloc ?_ _) | (with_reducible refine Row.drew ?_) | (with_reducible refine Row.drewN ?_ _) | (with_reducible refine Row.step ?_ (by with_reducible assumption))))
        have ca02 := Ra2.cell 0 rfl
        have ca12 := Ra2.cell 1 rfl
        have la2 := Ra2.lt
        go_wp2_with fail
        refine (law_rat_any _ _ _).mono ?_
        rintro e w3 ⟨rfl, hb3⟩
        have Ra3 : Row w3 w.heap.size [.int .i64 a0, .int .i64 a1] := by (repeat' (first | (with_reducible assumption) | (with_reducible refine Row.new' _ _ _ (by first | rfl | (simp; done) | omega)) | (with_reducible refine Row.alloc ?_ _) | (with_reducible refine Row.drew ?_) | (with_reducible refine Row.drewN ?_ _) | (with_reducible refine Row.step ?_ (by with_reducible assumption))))
        have ca03 := Ra3.cell 0 rfl
        have ca13 := Ra3.cell 1 rfl
        have la3 := Ra3.lt
        go_wp2_with fail
        refine (Round_v a0 a1 1 (q) _ va (by omega) (by omega) s1).mono ?_
        rintro e w4 ⟨rfl, hb4⟩
        have Ra4 : Row w4 w.heap.size [.int .i64 a0, .int .i64 a1] := by (repeat' (first | (with_reducible assumption) | (with_reducible refine Row.new' _ _ _ (by first | rfl | (simp; done) | omega)) | (with_reducible refine Row.alloc ?_ _) | (with_reducible refine Row.drew ?_) | (with_reducible refine Row.drewN ?_ _) | (with_reducible refine Row.step ?_ (by with_reducible assumption))))
        have ca04 := Ra4.cell 0 rfl
        have ca14 := Ra4.cell 1 rfl
        have la4 := Ra4.lt
        have Rb4 : Row w4 w3.heap.size [.int .i64 (-a0), .int .i64 a1] := by (repeat' (first | (with_reducible assumption) | (with_reducible refine Row.new' _ _ _ (by first | rfl | (simp; done) | omega)) | (with_reducible refine Row.alloc ?_ _) | (with_reducible refine Row.drew ?_) | (with_reducible refine Row.drewN ?_ _) | (with_reducible refine Row.step ?_ (by with_reducible assumption))))
        have cb04 := Rb4.cell 0 rfl
        have cb14 := Rb4.cell 1 rfl
        have lb4 := Rb4.lt
        go_wp2_with fail
        refine (Round_v a0 a1 2 (q + 1) _ va (by omega) (by omega) s2).mono ?_
        rintro e w5 ⟨rfl, hb5⟩
        have Ra5 : Row w5 w.heap.size [.int .i64 a0, .int .i64 a1] := by (repeat' (first | (with_reducible assumption) | (with_reducible refine Row.new' _ _ _ (by first | rfl | (simp; done) | omega)) | (with_reducible refine Row.alloc ?_ _) | (with_reducible refine Row.drew ?_) | (with_reducible refine Row.drewN ?_ _) | (with_reducible refine Row.step ?_ (by with_reducible assumption))))
        have ca05 := Ra5.cell 0 rfl
        have ca15 := Ra5.cell 1 rfl
        have la5 := Ra5.lt
        have Rb5 : Row w5 w3.heap.size [.int .i64 (-a0), .int .i64 a1] := by (repeat' (first | (with_reducible assumption) | (with_reducible refine Row.new' _ _ _ (by first | rfl | (simp; done) | omega)) | (with_reducible refine Row.alloc ?_ _) | (with_reducible refine Row.drew ?_) | (with_reducible refine Row.drewN ?_ _) | (with_reducible refine Row.step ?_ (by with_reducible assumption))))
        have cb05 := Rb5.cell 0 rfl
        have cb15 := Rb5.cell 1 rfl
        have lb5 := Rb5.lt
        go_wp2_with fail
        refine (Round_v a0 a1 3 (q) _ va (by omega) (by omega) s3).mono ?_
        rintro e w6 ⟨rfl, hb6⟩
        have Ra6 : Row w6 w.heap.size [.int .i64 a0, .int .i64 a1] := by (repeat' (first | (with_reducible assumption) | (with_reducible refine Row.new' _ _ _ (by first | rfl | (simp; done) | omega)) | (with_reducible refine Row.alloc ?_ _) | (with_reducible refine Row.drew ?_) | (with_reducible refine Row.drewN ?_ _) | (with_reducible refine Row.step ?_ (by with_reducible assumption))))
        have ca06 := Ra6.cell 0 rfl
        have ca16 := Ra6.cell 1 rfl
        have la6 := Ra6.lt
        have Rb6 : Row w6 w3.heap.size [.int .i64 (-a0), .int .i64 a1] := by (repeat' (first | (with_reducible assumption) | (with_reducible refine Row.new' _ _ _ (by first | rfl | (simp; done) | omega)) | (with_reducible refine Row.alloc ?_ _) | (with_reducible refine Row.drew ?_) | (with_reducible refine Row.drewN ?_ _) | (with_reducible refine Row.step ?_ (by with_reducible assumption))))
        have cb06 := Rb6.cell 0 rfl
        have cb16 := Rb6.cell 1 rfl
        have lb6 := Rb6.lt
        go_wp2_with fail
        refine (Round_v (-a0) a1 1 (-(q + 1)) _ vb (by omega) (by omega) s4).mono ?_
        rintro e w7 ⟨rfl, hb7⟩
        have Ra7 : Row w7 w.heap.size [.int .i64 a0, .int .i64 a1] := by (repeat' (first | (with_reducible assumption) | (with_reducible refine Row.new' _ _ _ (by first | rfl | (simp; done) | omega)) | (with_reducible refine Row.alloc ?_ _) | (with_reducible refine Row.drew ?_) | (with_reducible refine Row.drewN ?_ _) | (with_reducible refine Row.step ?_ (by with_reducible assumption))))
        have ca07 := Ra7.cell 0 rfl
        have ca17 := Ra7.cell 1 rfl
        have la7 := Ra7.lt
        have Rb7 : Row w7 w3.heap.size [.int .i64 (-a0), .int .i64 a1] := by (repeat' (first | (with_reducible assumption) | (with_reducible refine Row.new' _ _ _ (by first | rfl | (simp; done) | omega)) | (with_reducible refine Row.alloc ?_ _) | (with_reducible refine Row.drew ?_) | (with_reducible refine Row.drewN ?_ _) | (with_reducible refine Row.step ?_ (by with_reducible assumption))))
        have cb07 := Rb7.cell 0 rfl
        have cb17 := Rb7.cell 1 rfl
        have lb7 := Rb7.lt
        go_wp2_with fail
        refine (Round_v (-a0) a1 2 (-q) _ vb (by omega) (by omega) s5).mono ?_
        rintro e w8 ⟨rfl, hb8⟩
        have Ra8 : Row w8 w.heap.size [.int .i64 a0, .int .i64 a1] := by (repeat' (first | (with_reducible assumption) | (with_reducible refine Row.new' _ _ _ (by first | rfl | (simp; done) | omega)) | (with_reducible refine Row.alloc ?_ _) | (with_reducible refine Row.drew ?_) | (with_reducible refine Row.drewN ?_ _) | (with_reducible refine Row.step ?_ (by with_reducible assumption))))
        have ca08 := Ra8.cell 0 rfl
        have ca18 := Ra8.cell 1 rfl
        have la8 := Ra8.lt
        have Rb8 : Row w8 w3.heap.size [.int .i64 (-a0), .int .i64 a1] := by (repeat' (first | (with_reducible assumption) | (with_reducible refine Row.new' _ _ _ (by first | rfl | (simp; done) | omega)) | (with_reducible refine Row.alloc ?_ _) | (with_reducible refine Row.drew ?_) | (with_reducible refine Row.drewN ?_ _) | (with_reducible refine Row.step ?_ (by with_reducible assumption))))
        have cb08 := Rb8.cell 0 rfl
        have cb18 := Rb8.cell 1 rfl
        have lb8 := Rb8.lt
        go_wp2_with fail
        refine (Round_v (-a0) a1 3 (-q) _ vb (by omega) (by omega) s6).mono ?_
        rintro e w9 ⟨rfl, hb9⟩
        have Ra9 : Row w9 w.heap.size [.int .i64 a0, .int .i64 a1] := by (repeat' (first | (with_reducible assumption) | (with_reducible refine Row.new' _ _ _ (by first | rfl | (simp; done) | omega)) | (with_reducible refine Row.alloc ?_ _) | (with_reducible refine Row.drew ?_) | (with_reducible refine Row.drewN ?_ _) | (with_reducible refine Row.step ?_ (by with_reducible assumption))))
        have ca09 := Ra9.cell 0 rfl
        have ca19 := Ra9.cell 1 rfl
        have la9 := Ra9.lt
        go_wp2_with fail
        go_ret
        refine ⟨rfl, ?_⟩
        (repeat' (first | (with_reducible exact Below.refl _ _) | (with_reducible assumption) | (with_reducible exact Bw.out (by with_reducible assumption)) | (with_reducible refine bw_alloc ?_ _) | (with_reducible refine bw_step ?_ (by with_reducible assumption)) | (with_reducible refine Below.alloc ?_ ?_ _) | (with_reducible refine Below.drew ?_) | (with_reducible refine below_drewN ?_ _) | (with_reducible refine Below.setCell ?_ ?_ _) | (with_reducible refine below_step ?_ (by with_reducible assumption) ?_) | (with_reducible exact Nat.le_refl _) | omega | (simp; omega) | (simp; done)))
      · have f1 : 2 * (a0 - (q * a1 + a1)) < a1 := by have := HN.out; omega
        have f2 : -a1 < 2 * (a0 - (q * a1 + a1)) := by have := HN.out; omega
        go_enter Try.func5, Try.ntmps5
        go_wp2_with fail
        refine (head_any _).mono ?_
        rintro e w1 ⟨rfl, hb1⟩
        have Ra1 : Row w1 w.heap.size [.int .i64 a0, .int .i64 a1] := by (repeat' (first | (with_reducible assumption) | (with_reducible refine Row.new' _ _ _ (by first | rfl | (simp; done) | omega)) | (with_reducible refine Row.alloc ?_ _) | (with_reducible refine Row.drew ?_) | (with_reducible refine Row.drewN ?_ _) | (with_reducible refine Row.step ?_ (by with_reducible assumption))))
        have ca01 := Ra1.cell 0 rfl
        have ca11 := Ra1.cell 1 rfl
        have la1 := Ra1.lt
        go_wp2_with fail
        refine (R_valid_any _ _ _).mono ?_
        rintro e w2 ⟨rfl, hb2⟩
        have Ra2 : Row w2 w.heap.size [.int .i64 a0, .int .i64 a1] := by (repeat' (first | (with_reducible assumption) | (with_reducible refine Row.new' _ _ _ (by first | rfl | (simp; done) | omega)) | (with_reducible refine Row.alloc ?_ _) | (with_reducible refine Row.drew ?_) | (with_reducible refine Row.drewN ?_ _) | (with_reducible refine Row.step ?_ (by with_reducible assumption))))
        have ca02 := Ra2.cell 0 rfl
        have ca12 := Ra2.cell 1 rfl
        have la2 := Ra2.lt
        go_wp2_with fail
        refine (law_rat_any _ _ _).mono ?_
        rintro e w3 ⟨rfl, hb3⟩
        have Ra3 : Row w3 w.heap.size [.int .i64 a0, .int .i64 a1] := by (repeat' (first | (with_reducible assumption) | (with_reducible refine Row.new' _ _ _ (by first | rfl | (simp; done) | omega)) | (with_reducible refine Row.alloc ?_ _) | (with_reducible refine Row.drew ?_) | (with_reducible refine Row.drewN ?_ _) | (with_reducible refine Row.step ?_ (by with_reducible assumption))))
        have ca03 := Ra3.cell 0 rfl
        have ca13 := Ra3.cell 1 rfl
        have la3 := Ra3.lt
        go_wp2_with fail
        refine (Round_v a0 a1 1 (q) _ va (by omega) (by omega) s1).mono ?_
        rintro e w4 ⟨rfl, hb4⟩
        have Ra4 : Row w4 w.heap.size [.int .i64 a0, .int .i64 a1] := by (repeat' (first | (with_reducible assumption) | (with_reducible refine Row.new' _ _ _ (by first | rfl | (simp; done) | omega)) | (with_reducible refine Row.alloc ?_ _) | (with_reducible refine Row.drew ?_) | (with_reducible refine Row.drewN ?_ _) | (with_reducible refine Row.step ?_ (by with_reducible assumption))))
        have ca04 := Ra4.cell 0 rfl
        have ca14 := Ra4.cell 1 rfl
        have la4 := Ra4.lt
        have Rb4 : Row w4 w3.heap.size [.int .i64 (-a0), .int .i64 a1] := by (repeat' (first | (with_reducible assumption) | (with_reducible refine Row.new' _ _ _ (by first | rfl | (simp; done) | omega)) | (with_reducible refine Row.alloc ?_ _) | (with_reducible refine Row.drew ?_) | (with_reducible refine Row.drewN ?_ _) | (with_reducible refine Row.step ?_ (by with_reducible assumption))))
        have cb04 := Rb4.cell 0 rfl
        have cb14 := Rb4.cell 1 rfl
        have lb4 := Rb4.lt
        go_wp2_with fail
        refine (Round_v a0 a1 2 (q + 1) _ va (by omega) (by omega) s2).mono ?_
        rintro e w5 ⟨rfl, hb5⟩
        have Ra5 : Row w5 w.heap.size [.int .i64 a0, .int .i64 a1] := by (repeat' (first | (with_reducible assumption) | (with_reducible refine Row.new' _ _ _ (by first | rfl | (simp; done) | omega)) | (with_reducible refine Row.alloc ?_ _) | (with_reducible refine Row.drew ?_) | (with_reducible refine Row.drewN ?_ _) | (with_reducible refine Row.step ?_ (by with_reducible assumption))))
        have ca05 := Ra5.cell 0 rfl
        have ca15 := Ra5.cell 1 rfl
        have la5 := Ra5.lt
        have Rb5 : Row w5 w3.heap.size [.int .i64 (-a0), .int .i64 a1] := by (repeat' (first | (with_reducible assumption) | (with_reducible refine Row.new' _ _ _ (by first | rfl | (simp; done) | omega)) | (with_reducible refine Row.alloc ?_ _) | (with_reducible refine Row.drew ?_) | (with_reducible refine Row.drewN ?_ _) | (with_reducible refine Row.step ?_ (by with_reducible assumption))))
        have cb05 := Rb5.cell 0 rfl
        have cb15 := Rb5.cell 1 rfl
        have lb5 := Rb5.lt
        go_wp2_with fail
        refine (Round_v a0 a1 3 (q + 1) _ va (by omega) (by omega) s3).mono ?_
        rintro e w6 ⟨rfl, hb6⟩
        have Ra6 : Row w6 w.heap.size [.int .i64 a0, .int .i64 a1] := by (repeat' (first | (with_reducible assumption) | (with_reducible refine Row.new' _ _ _ (by first | rfl | (simp; done) | omega)) | (with_reducible refine Row.alloc ?_ _) | (with_reducible refine Row.drew ?_) | (with_reducible refine Row.drewN ?_ _) | (with_reducible refine Row.step ?_ (by with_reducible assumption))))
        have ca06 := Ra6.cell 0 rfl
        have ca16 := Ra6.cell 1 rfl
        have la6 := Ra6.lt
        have Rb6 : Row w6 w3.heap.size [.int .i64 (-a0), .int .i64 a1] := by (repeat' (first | (with_reducible assumption) | (with_reducible refine Row.new' _ _ _ (by first | rfl | (simp; done) | omega)) | (with_reducible refine Row.alloc ?_ _) | (with_reducible refine Row.drew ?_) | (with_reducible refine Row.drewN ?_ _) | (with_reducible refine Row.step ?_ (by with_reducible assumption))))
        have cb06 := Rb6.cell 0 rfl
        have cb16 := Rb6.cell 1 rfl
        have lb6 := Rb6.lt
        go_wp2_with fail
        refine (Round_v (-a0) a1 1 (-(q + 1)) _ vb (by omega) (by omega) s4).mono ?_
        rintro e w7 ⟨rfl, hb7⟩
        have Ra7 : Row w7 w.heap.size [.int .i64 a0, .int .i64 a1] := by (repeat' (first | (with_reducible assumption) | (with_reducible refine Row.new' _ _ _ (by first | rfl | (simp; done) | omega)) | (with_reducible refine Row.alloc ?_ _) | (with_reducible refine Row.drew ?_) | (with_reducible refine Row.drewN ?_ _) | (with_reducible refine Row.step ?_ (by with_reducible assumption))))
        have ca07 := Ra7.cell 0 rfl
        have ca17 := Ra7.cell 1 rfl
        have la7 := Ra7.lt
        have Rb7 : Row w7 w3.heap.size [.int .i64 (-a0), .int .i64 a1] := by (repeat' (first | (with_reducible assumption) | (with_reducible refine Row.new' _ _ _ (by first | rfl | (simp; done) | omega)) | (with_reducible refine Row.alloc ?_ _) | (with_reducible refine Row.drew ?_) | (with_reducible refine Row.drewN ?_ _) | (with_reducible refine Row.step ?_ (by with_reducible assumption))))
        have cb07 := Rb7.cell 0 rfl
        have cb17 := Rb7.cell 1 rfl
        have lb7 := Rb7.lt
        go_wp2_with fail
        refine (Round_v (-a0) a1 2 (-q) _ vb (by omega) (by omega) s5).mono ?_
        rintro e w8 ⟨rfl, hb8⟩
        have Ra8 : Row w8 w.heap.size [.int .i64 a0, .int .i64 a1] := by (repeat' (first | (with_reducible assumption) | (with_reducible refine Row.new' _ _ _ (by first | rfl | (simp; done) | omega)) | (with_reducible refine Row.alloc ?_ _) | (with_reducible refine Row.drew ?_) | (with_reducible refine Row.drewN ?_ _) | (with_reducible refine Row.step ?_ (by with_reducible assumption))))
        have ca08 := Ra8.cell 0 rfl
        have ca18 := Ra8.cell 1 rfl
        have la8 := Ra8.lt
        have Rb8 : Row w8 w3.heap.size [.int .i64 (-a0), .int .i64 a1] := by (repeat' (first | (with_reducible assumption) | (with_reducible refine Row.new' _ _ _ (by first | rfl | (simp; done) | omega)) | (with_reducible refine Row.alloc ?_ _) | (with_reducible refine Row.drew ?_) | (with_reducible refine Row.drewN ?_ _) | (with_reducible refine Row.step ?_ (by with_reducible assumption))))
        have cb08 := Rb8.cell 0 rfl
        have cb18 := Rb8.cell 1 rfl
        have lb8 := Rb8.lt
        go_wp2_with fail
        refine (Round_v (-a0) a1 3 (-(q + 1)) _ vb (by omega) (by omega) s6).mono ?_
        rintro e w9 ⟨rfl, hb9⟩
        have Ra9 : Row w9 w.heap.size [.int .i64 a0, .int .i64 a1] := by (repeat' (first | (with_reducible assumption) | (with_reducible refine Row.new' _ _ _ (by first | rfl | (simp; done) | omega)) | (with_reducible refine Row.alloc ?_ _) | (with_reducible refine Row.drew ?_) | (with_reducible refine Row.drewN ?_ _) | (with_reducible refine Row.step ?_ (by with_reducible assumption))))
        have ca09 := Ra9.cell 0 rfl
        have ca19 := Ra9.cell 1 rfl
        have la9 := Ra9.lt
        go_wp2_with fail
        go_ret
        refine ⟨rfl, ?_⟩
        (repeat' (first | (with_reducible exact Below.refl _ _) | (with_reducible assumption) | (with_reducible exact Bw.out (by with_reducible assumption)) | (with_reducible refine bw_alloc ?_ _) | (with_reducible refine bw_step ?_ (by with_reducible assumption)) | (with_reducible refine Below.alloc ?_ ?_ _) | (with_reducible refine Below.drew ?_) | (with_reducible refine below_drewN ?_ _) | (with_reducible refine Below.setCell ?_ ?_ _) | (with_reducible refine below_step ?_ (by with_reducible assumption) ?_) | (with_reducible exact Nat.le_refl _) | omega | (simp; omega) | (simp; done)))
      · have f1 : 2 * (a0 - (q * a1 + a1)) = -a1 := by have := HN.out; omega
        have f3 : ((q + 1).tmod 2 == 0) = true := by rw [Int.tmod_eq_zero_of_dvd (show (2 : Int) ∣ q + 1 by omega)]; rfl
        go_enter Try.func5, Try.ntmps5
        go_wp2_with fail
        refine (head_any _).mono ?_
        rintro e w1 ⟨rfl, hb1⟩
        have Ra1 : Row w1 w.heap.size [.int .i64 a0, .int .i64 a1] := by (repeat' (first | (with_reducible assumption) | (with_reducible refine Row.new' _ _ _ (by first | rfl | (simp; done) | omega)) | (with_reducible refine Row.alloc ?_ _) | (with_reducible refine Row.drew ?_) | (with_reducible refine Row.drewN ?_ _) | (with_reducible refine Row.step ?_ (by with_reducible assumption))))
        have ca01 := Ra1.cell 0 rfl
        have ca11 := Ra1.cell 1 rfl
        have la1 := Ra1.lt
        go_wp2_with fail
        refine (R_valid_any _ _ _).mono ?_
        rintro e w2 ⟨rfl, hb2⟩
        have Ra2 : Row w2 w.heap.size [.int .i64 a0, .int .i64 a1] := by (repeat' (first | (with_reducible assumption) | (with_reducible refine Row.new' _ _ _ (by first | rfl | (simp; done) | omega)) | (with_reducible refine Row.alloc ?_ _) | (with_reducible refine Row.drew ?_) | (with_reducible refine Row.drewN ?_ _) | (with_reducible refine Row.step ?_ (by with_reducible assumption))))
        have ca02 := Ra2.cell 0 rfl
        have ca12 := Ra2.cell 1 rfl
        have la2 := Ra2.lt
        go_wp2_with fail
        refine (law_rat_any _ _ _).mono ?_
        rintro e w3 ⟨rfl, hb3⟩
        have Ra3 : Row w3 w.heap.size [.int .i64 a0, .int .i64 a1] := by (repeat' (first | (with_reducible assumption) | (with_reducible refine Row.new' _ _ _ (by first | rfl | (simp; done) | omega)) | (with_reducible refine Row.alloc ?_ _) | (with_reducible refine Row.drew ?_) | (with_reducible refine Row.drewN ?_ _) | (with_reducible refine Row.step ?_ (by with_reducible assumption))))
        have ca03 := Ra3.cell 0 rfl
        have ca13 := Ra3.cell 1 rfl
        have la3 := Ra3.lt
        go_wp2_with fail
        refine (Round_v a0 a1 1 (q) _ va (by omega) (by omega) s1).mono ?_
        rintro e w4 ⟨rfl, hb4⟩
        have Ra4 : Row w4 w.heap.size [.int .i64 a0, .int .i64 a1] := by (repeat' (first | (with_reducible assumption) | (with_reducible refine Row.new' _ _ _ (by first | rfl | (simp; done) | omega)) | (with_reducible refine Row.alloc ?_ _) | (with_reducible refine Row.drew ?_) | (with_reducible refine Row.drewN ?_ _) | (with_reducible refine Row.step ?_ (by with_reducible assumption))))
        have ca04 := Ra4.cell 0 rfl
        have ca14 := Ra4.cell 1 rfl
        have la4 := Ra4.lt
        have Rb4 : Row w4 w3.heap.size [.int .i64 (-a0), .int .i64 a1] := by (repeat' (first | (with_reducible assumption) | (with_reducible refine Row.new' _ _ _ (by first | rfl | (simp; done) | omega)) | (with_reducible refine Row.alloc ?_ _) | (with_reducible refine Row.drew ?_) | (with_reducible refine Row.drewN ?_ _) | (with_reducible refine Row.step ?_ (by with_reducible assumption))))
        have cb04 := Rb4.cell 0 rfl
        have cb14 := Rb4.cell 1 rfl
        have lb4 := Rb4.lt
        go_wp2_with fail
        refine (Round_v a0 a1 2 (q + 1) _ va (by omega) (by omega) s2).mono ?_
        rintro e w5 ⟨rfl, hb5⟩
        have Ra5 : Row w5 w.heap.size [.int .i64 a0, .int .i64 a1] := by (repeat' (first | (with_reducible assumption) | (with_reducible refine Row.new' _ _ _ (by first | rfl | (simp; done) | omega)) | (with_reducible refine Row.alloc ?_ _) | (with_reducible refine Row.drew ?_) | (with_reducible refine Row.drewN ?_ _) | (with_reducible refine Row.step ?_ (by with_reducible assumption))))
        have ca05 := Ra5.cell 0 rfl
        have ca15 := Ra5.cell 1 rfl
        have la5 := Ra5.lt
        have Rb5 : Row w5 w3.heap.size [.int .i64 (-a0), .int .i64 a1] := by (repeat' (first | (with_reducible assumption) | (with_reducible refine Row.new' _ _ _ (by first | rfl | (simp; done) | omega)) | (with_reducible refine Row.alloc ?_ _) | (with_reducible refine Row.drew ?_) | (with_reducible refine Row.drewN ?_ _) | (with_reducible refine Row.step ?_ (by with_reducible assumption))))
        have cb05 := Rb5.cell 0 rfl
        have cb15 := Rb5.cell 1 rfl
        have lb5 := Rb5.lt
        go_wp2_with fail
        refine (Round_v a0 a1 3 (q + 1) _ va (by omega) (by omega) s3).mono ?_
        rintro e w6 ⟨rfl, hb6⟩
        have Ra6 : Row w6 w.heap.size [.int .i64 a0, .int .i64 a1] := by (repeat' (first | (with_reducible assumption) | (with_reducible refine Row.new' _ _ _ (by first | rfl | (simp; done) | omega)) | (with_reducible refine Row.alloc ?_ _) | (with_reducible refine Row.drew ?_) | (with_reducible refine Row.drewN ?_ _) | (with_reducible refine Row.step ?_ (by with_reducible assumption))))
        have ca06 := Ra6.cell 0 rfl
        have ca16 := Ra6.cell 1 rfl
        have la6 := Ra6.lt
        have Rb6 : Row w6 w3.heap.size [.int .i64 (-a0), .int .i64 a1] := by (repeat' (first | (with_reducible assumption) | (with_reducible refine Row.new' _ _ _ (by first | rfl | (simp; done) | omega)) | (with_reducible refine Row.alloc ?_ _) | (with_reducible refine Row.drew ?_) | (with_reducible refine Row.drewN ?_ _) | (with_reducible refine Row.step ?_ (by with_reducible assumption))))
        have cb06 := Rb6.cell 0 rfl
        have cb16 := Rb6.cell 1 rfl
        have lb6 := Rb6.lt
        go_wp2_with fail
        refine (Round_v (-a0) a1 1 (-(q + 1)) _ vb (by omega) (by omega) s4).mono ?_
        rintro e w7 ⟨rfl, hb7⟩
        have Ra7 : Row w7 w.heap.size [.int .i64 a0, .int .i64 a1] := by (repeat' (first | (with_reducible assumption) | (with_reducible refine Row.new' _ _ _ (by first | rfl | (simp; done) | omega)) | (with_reducible refine Row.alloc ?_ _) | (with_reducible refine Row.drew ?_) | (with_reducible refine Row.drewN ?_ _) | (with_reducible refine Row.step ?_ (by with_reducible assumption))))
        have ca07 := Ra7.cell 0 rfl
        have ca17 := Ra7.cell 1 rfl
        have la7 := Ra7.lt
        have Rb7 : Row w7 w3.heap.size [.int .i64 (-a0), .int .i64 a1] := by (repeat' (first | (with_reducible assumption) | (with_reducible refine Row.new' _ _ _ (by first | rfl | (simp; done) | omega)) | (with_reducible refine Row.alloc ?_ _) | (with_reducible refine Row.drew ?_) | (with_reducible refine Row.drewN ?_ _) | (with_reducible refine Row.step ?_ (by with_reducible assumption))))
        have cb07 := Rb7.cell 0 rfl
        have cb17 := Rb7.cell 1 rfl
        have lb7 := Rb7.lt
        go_wp2_with fail
        refine (Round_v (-a0) a1 2 (-q) _ vb (by omega) (by omega) s5).mono ?_
        rintro e w8 ⟨rfl, hb8⟩
        have Ra8 : Row w8 w.heap.size [.int .i64 a0, .int .i64 a1] := by (repeat' (first | (with_reducible assumption) | (with_reducible refine Row.new' _ _ _ (by first | rfl | (simp; done) | omega)) | (with_reducible refine Row.alloc ?_ _) | (with_reducible refine Row.drew ?_) | (with_reducible refine Row.drewN ?_ _) | (with_reducible refine Row.step ?_ (by with_reducible assumption))))
        have ca08 := Ra8.cell 0 rfl
        have ca18 := Ra8.cell 1 rfl
        have la8 := Ra8.lt
        have Rb8 : Row w8 w3.heap.size [.int .i64 (-a0), .int .i64 a1] := by (repeat' (first | (with_reducible assumption) | (with_reducible refine Row.new' _ _ _ (by first | rfl | (simp; done) | omega)) | (with_reducible refine Row.alloc ?_ _) | (with_reducible refine Row.drew ?_) | (with_reducible refine Row.drewN ?_ _) | (with_reducible refine Row.step ?_ (by with_reducible assumption))))
        have cb08 := Rb8.cell 0 rfl
        have cb18 := Rb8.cell 1 rfl
        have lb8 := Rb8.lt
        go_wp2_with fail
        refine (Round_v (-a0) a1 3 (-(q + 1)) _ vb (by omega) (by omega) s6).mono ?_
        rintro e w9 ⟨rfl, hb9⟩
        have Ra9 : Row w9 w.heap.size [.int .i64 a0, .int .i64 a1] := by (repeat' (first | (with_reducible assumption) | (with_reducible refine Row.new' _ _ _ (by first | rfl | (simp; done) | omega)) | (with_reducible refine Row.alloc ?_ _) | (with_reducible refine Row.drew ?_) | (with_reducible refine Row.drewN ?_ _) | (with_reducible refine Row.step ?_ (by with_reducible assumption))))
        have ca09 := Ra9.cell 0 rfl
        have ca19 := Ra9.cell 1 rfl
        have la9 := Ra9.lt
        go_wp2_with fail
        go_ret
        refine ⟨rfl, ?_⟩
        (repeat' (first | (with_reducible exact Below.refl _ _) | (with_reducible assumption) | (with_reducible exact Bw.out (by with_reducible assumption)) | (with_reducible refine bw_alloc ?_ _) | (with_reducible refine bw_step ?_ (by with_reducible assumption)) | (with_reducible refine Below.alloc ?_ ?_ _) | (with_reducible refine Below.drew ?_) | (with_reducible refine below_drewN ?_ _) | (with_reducible refine Below.setCell ?_ ?_ _) | (with_reducible refine below_step ?_ (by with_reducible assumption) ?_) | (with_reducible exact Nat.le_refl _) | omega | (simp; omega) | (simp; done)))
      · have f1 : 2 * (a0 - q * a1) = a1 := by have := HN.out; omega
        have f3 : (q.tmod 2 == 0) = true := by rw [Int.tmod_eq_zero_of_dvd (show (2 : Int) ∣ q by omega)]; rfl
        go_enter Try.func5, Try.ntmps5
        go_wp2_with fail
        refine (head_any _).mono ?_
        rintro e w1 ⟨rfl, hb1⟩
        have Ra1 : Row w1 w.heap.size [.int .i64 a0, .int .i64 a1] := by (repeat' (first | (with_reducible assumption) | (with_reducible refine Row.new' _ _ _ (by first | rfl | (simp; done) | omega)) | (with_reducible refine Row.alloc ?_ _) | (with_reducible refine Row.drew ?_) | (with_reducible refine Row.drewN ?_ _) | (with_reducible refine Row.step ?_ (by with_reducible assumption))))
        have ca01 := Ra1.cell 0 rfl
        have ca11 := Ra1.cell 1 rfl
        have la1 := Ra1.lt
        go_wp2_with fail
        refine (R_valid_any _ _ _).mono ?_
        rintro e w2 ⟨rfl, hb2⟩
        have Ra2 : Row w2 w.heap.size [.int .i64 a0, .int .i64 a1] := by (repeat' (first | (with_reducible assumption) | (with_reducible refine Row.new' _ _ _ (by first | rfl | (simp; done) | omega)) | (with_reducible refine Row.alloc ?_ _) | (with_reducible refine Row.drew ?_) | (with_reducible refine Row.drewN ?_ _) | (with_reducible refine Row.step ?_ (by with_reducible assumption))))
        have ca02 := Ra2.cell 0 rfl
        have ca12 := Ra2.cell 1 rfl
        have la2 := Ra2.lt
        go_wp2_with fail
        refine (law_rat_any _ _ _).mono ?_
        rintro e w3 ⟨rfl, hb3⟩
        have Ra3 : Row w3 w.heap.size [.int .i64 a0, .int .i64 a1] := by (repeat' (first | (with_reducible assumption) | (with_reducible refine Row.new' _ _ _ (by first | rfl | (simp; done) | omega)) | (with_reducible refine Row.alloc ?_ _) | (with_reducible refine Row.drew ?_) | (with_reducible refine Row.drewN ?_ _) | (with_reducible refine Row.step ?_ (by with_reducible assumption))))
        have ca03 := Ra3.cell 0 rfl
        have ca13 := Ra3.cell 1 rfl
        have la3 := Ra3.lt
        go_wp2_with fail
        refine (Round_v a0 a1 1 (q) _ va (by omega) (by omega) s1).mono ?_
        rintro e w4 ⟨rfl, hb4⟩
        have Ra4 : Row w4 w.heap.size [.int .i64 a0, .int .i64 a1] := by (repeat' (first | (with_reducible assumption) | (with_reducible refine Row.new' _ _ _ (by first | rfl | (simp; done) | omega)) | (with_reducible refine Row.alloc ?_ _) | (with_reducible refine Row.drew ?_) | (with_reducible refine Row.drewN ?_ _) | (with_reducible refine Row.step ?_ (by with_reducible assumption))))
        have ca04 := Ra4.cell 0 rfl
        have ca14 := Ra4.cell 1 rfl
        have la4 := Ra4.lt
        have Rb4 : Row w4 w3.heap.size [.int .i64 (-a0), .int .i64 a1] := by (repeat' (first | (with_reducible assumption) | (with_reducible refine Row.new' _ _ _ (by first | rfl | (simp; done) | omega)) | (with_reducible refine Row.alloc ?_ _) | (with_reducible refine Row.drew ?_) | (with_reducible refine Row.drewN ?_ _) | (with_reducible refine Row.step ?_ (by with_reducible assumption))))
        have cb04 := Rb4.cell 0 rfl
        have cb14 := Rb4.cell 1 rfl
        have lb4 := Rb4.lt
        go_wp2_with fail
        refine (Round_v a0 a1 2 (q + 1) _ va (by omega) (by omega) s2).mono ?_
        rintro e w5 ⟨rfl, hb5⟩
        have Ra5 : Row w5 w.heap.size [.int .i64 a0, .int .i64 a1] := by (repeat' (first | (with_reducible assumption) | (with_reducible refine Row.new' _ _ _ (by first | rfl | (simp; done) | omega)) | (with_reducible refine Row.alloc ?_ _) | (with_reducible refine Row.drew ?_) | (with_reducible refine Row.drewN ?_ _) | (with_reducible refine Row.step ?_ (by with_reducible assumption))))
        have ca05 := Ra5.cell 0 rfl
        have ca15 := Ra5.cell 1 rfl
        have la5 := Ra5.lt
        have Rb5 : Row w5 w3.heap.size [.int .i64 (-a0), .int .i64 a1] := by (repeat' (first | (with_reducible assumption) | (with_reducible refine Row.new' _ _ _ (by first | rfl | (simp; done) | omega)) | (with_reducible refine Row.alloc ?_ _) | (with_reducible refine Row.drew ?_) | (with_reducible refine Row.drewN ?_ _) | (with_reducible refine Row.step ?_ (by with_reducible assumption))))
        have cb05 := Rb5.cell 0 rfl
        have cb15 := Rb5.cell 1 rfl
        have lb5 := Rb5.lt
        go_wp2_with fail
        refine (Round_v a0 a1 3 (q) _ va (by omega) (by omega) s3).mono ?_
        rintro e w6 ⟨rfl, hb6⟩
        have Ra6 : Row w6 w.heap.size [.int .i64 a0, .int .i64 a1] := by (repeat' (first | (with_reducible assumption) | (with_reducible refine Row.new' _ _ _ (by first | rfl | (simp; done) | omega)) | (with_reducible refine Row.alloc ?_ _) | (with_reducible refine Row.drew ?_) | (with_reducible refine Row.drewN ?_ _) | (with_reducible refine Row.step ?_ (by with_reducible assumption))))
        have ca06 := Ra6.cell 0 rfl
        have ca16 := Ra6.cell 1 rfl
        have la6 := Ra6.lt
        have Rb6 : Row w6 w3.heap.size [.int .i64 (-a0), .int .i64 a1] := by (repeat' (first | (with_reducible assumption) | (with_reducible refine Row.new' _ _ _ (by first | rfl | (simp; done) | omega)) | (with_reducible refine Row.alloc ?_ _) | (with_reducible refine Row.drew ?_) | (with_reducible refine Row.drewN ?_ _) | (with_reducible refine Row.step ?_ (by with_reducible assumption))))
        have cb06 := Rb6.cell 0 rfl
        have cb16 := Rb6.cell 1 rfl
        have lb6 := Rb6.lt
        go_wp2_with fail
        refine (Round_v (-a0) a1 1 (-(q + 1)) _ vb (by omega) (by omega) s4).mono ?_
        rintro e w7 ⟨rfl, hb7⟩
        have Ra7 : Row w7 w.heap.size [.int .i64 a0, .int .i64 a1] := by (repeat' (first | (with_reducible assumption) | (with_reducible refine Row.new' _ _ _ (by first | rfl | (simp; done) | omega)) | (with_reducible refine Row.alloc ?_ _) | (with_reducible refine Row.drew ?_) | (with_reducible refine Row.drewN ?_ _) | (with_reducible refine Row.step ?_ (by with_reducible assumption))))
        have ca07 := Ra7.cell 0 rfl
        have ca17 := Ra7.cell 1 rfl
        have la7 := Ra7.lt
        have Rb7 : Row w7 w3.heap.size [.int .i64 (-a0), .int .i64 a1] := by (repeat' (first | (with_reducible assumption) | (with_reducible refine Row.new' _ _ _ (by first | rfl | (simp; done) | omega)) | (with_reducible refine Row.alloc ?_ _) | (with_reducible refine Row.drew ?_) | (with_reducible refine Row.drewN ?_ _) | (with_reducible refine Row.step ?_ (by with_reducible assumption))))
        have cb07 := Rb7.cell 0 rfl
        have cb17 := Rb7.cell 1 rfl
        have lb7 := Rb7.lt
        go_wp2_with fail
        refine (Round_v (-a0) a1 2 (-q) _ vb (by omega) (by omega) s5).mono ?_
        rintro e w8 ⟨rfl, hb8⟩
        have Ra8 : Row w8 w.heap.size [.int .i64 a0, .int .i64 a1] := by (repeat' (first | (with_reducible assumption) | (with_reducible refine Row.new' _ _ _ (by first | rfl | (simp; done) | omega)) | (with_reducible refine Row.alloc ?_ _) | (with_reducible refine Row.drew ?_) | (with_reducible refine Row.drewN ?_ _) | (with_reducible refine Row.step ?_ (by with_reducible assumption))))
        have ca08 := Ra8.cell 0 rfl
        have ca18 := Ra8.cell 1 rfl
        have la8 := Ra8.lt
        have Rb8 : Row w8 w3.heap.size [.int .i64 (-a0), .int .i64 a1] := by (repeat' (first | (with_reducible assumption) | (with_reducible refine Row.new' _ _ _ (by first | rfl | (simp; done) | omega)) | (with_reducible refine Row.alloc ?_ _) | (with_reducible refine Row.drew ?_) | (with_reducible refine Row.drewN ?_ _) | (with_reducible refine Row.step ?_ (by with_reducible assumption))))
        have cb08 := Rb8.cell 0 rfl
        have cb18 := Rb8.cell 1 rfl
        have lb8 := Rb8.lt
        go_wp2_with fail
        refine (Round_v (-a0) a1 3 (-q) _ vb (by omega) (by omega) s6).mono ?_
        rintro e w9 ⟨rfl, hb9⟩
        have Ra9 : Row w9 w.heap.size [.int .i64 a0, .int .i64 a1] := by (repeat' (first | (with_reducible assumption) | (with_reducible refine Row.new' _ _ _ (by first | rfl | (simp; done) | omega)) | (with_reducible refine Row.alloc ?_ _) | (with_reducible refine Row.drew ?_) | (with_reducible refine Row.drewN ?_ _) | (with_reducible refine Row.step ?_ (by with_reducible assumption))))
        have ca09 := Ra9.cell 0 rfl
        have ca19 := Ra9.cell 1 rfl
        have la9 := Ra9.lt
        go_wp2_with fail
        go_ret
        refine ⟨rfl, ?_⟩
        (repeat' (first | (with_reducible exact Below.refl _ _) | (with_reducible assumption) | (with_reducible exact Bw.out (by with_reducible assumption)) | (with_reducible refine bw_alloc ?_ _) | (with_reducible refine bw_step ?_ (by with_reducible assumption)) | (with_reducible refine Below.alloc ?_ ?_ _) | (with_reducible refine Below.drew ?_) | (with_reducible refine below_drewN ?_ _) | (with_reducible refine Below.setCell ?_ ?_ _) | (with_reducible refine below_step ?_ (by with_reducible assumption) ?_) | (with_reducible exact Nat.le_refl _) | omega | (simp; omega) | (simp; done)))
  · have ea := vld_false va
    go_enter Try.func5, Try.ntmps5
    go_wp2_with fail
    refine (head_any _).mono ?_
    rintro e w1 ⟨rfl, hb1⟩
    have Ra1 : Row w1 w.heap.size [.int .i64 a0, .int .i64 a1] := by (repeat' (first | (with_reducible assumption) | (with_reducible refine Row.new' _ _ _ (by first | rfl | (simp; done) | omega)) | (with_reducible refine Row.alloc ?_ _) | (with_reducible refine Row.drew ?_) | (with_reducible refine Row.drewN ?_ _) | (with_reducible refine Row.step ?_ (by with_reducible assumption))))
    have ca01 := Ra1.cell 0 rfl
    have ca11 := Ra1.cell 1 rfl
    have la1 := Ra1.lt
    go_wp2_with fail
    refine (R_valid_any _ _ _).mono ?_
    rintro e w2 ⟨rfl, hb2⟩
    have Ra2 : Row w2 w.heap.size [.int .i64 a0, .int .i64 a1] := by (repeat' (first | (with_reducible assumption) | (with_reducible refine Row.new' _ _ _ (by first | rfl | (simp; done) | omega)) | (with_reducible refine Row.alloc ?_ _) | (with_reducible refine Row.drew ?_) | (with_reducible refine Row.drewN ?_ _) | (with_reducible refine Row.step ?_ (by with_reducible assumption))))
    have ca02 := Ra2.cell 0 rfl
    have ca12 := Ra2.cell 1 rfl
    have la2 := Ra2.lt
    go_wp2_with fail
    go_ret
    refine ⟨rfl, ?_⟩
    (repeat' (first | (with_reducible exact Below.refl _ _) | (with_reducible assumption) | (with_reducible exact Bw.out (by with_reducible assumption)) | (with_reducible refine bw_alloc ?_ _) | (with_reducible refine bw_step ?_ (by with_reducible assumption)) | (with_reducible refine Below.alloc ?_ ?_ _) | (with_reducible refine Below.drew ?_) | (with_reducible refine below_drewN ?_ _) | (with_reducible refine Below.setCell ?_ ?_ _) | (with_reducible refine below_step ?_ (by with_reducible assumption) ?_) | (with_reducible exact Nat.le_refl _) | omega | (simp; omega) | (simp; done)))


set_option maxRecDepth 100000 in
theorem ratioRounds_lifted (os : Os) (started : os.Started) (H : Type) (enc : TypeId × Value → H) :
    ReturnsInHanded {} Try.checked os 5 .any (Rows.ratioRoundsSpec.pre6 enc Try.prog Try.f5 Rows.ratioRoundsRow.domain false) (Rows.ratioRoundsSpec.post enc Try.prog Try.f5 false true false false) := by
  refine returnsInHanded_of_change (C := Try.checked) own started (by kernel_rfl) Try.func5
    (ChangeSpec.witness6 (enc := enc) (C := Try.checked) false ⟨#[], #[.agg #[.int .i64 0, .int .i64 0]], []⟩ 8 (by kernel_rfl) (by kernel_rfl) (by kernel_rfl) (by kernel_rfl)) ?_
  intro W base args ds gs before hval0 hW _ _
  have hval : ∀ (j : Nat) t v, Try.f5.params[j]? = some t → args[j]? = some v → Value.okWide Try.prog W .any base t v := hval0
  have hW' := hW
  obtain ⟨p, q, hA0, hV, rfl, hfz, hnd⟩ := hW
  obtain ⟨rfl, rfl⟩ := trodVars_none hV
  have hA : DataW.TrodAll enc Try.prog W 0 (fun _ => true) true Try.f5.params.toList args.toList ds p := hA0
  rw [Try.params5] at hA hval
  obtain ⟨v0, vs0, d0, ds0, p0, q0, hargs, rfl, rfl, h0, r0⟩ := trodAll_cons hA
  obtain ⟨rfl, rfl, rfl⟩ := trodAll_nil r0
  obtain rfl : args = #[v0] := by cases args; simp_all
  obtain ⟨c00, c01, y00, y01, m0, rfl, rfl, rfl, hy00, hy01⟩ := Go.Joins.open_agg2 Try.underlying24 (by kernel_rfl) (by kernel_rfl) (hval 0 24 v0 rfl rfl) h0
  obtain ⟨a0, e00, rfl, wa0⟩ := DataW.trod_int Try.underlying3 hy00
  simp only [List.cons.injEq, and_true] at e00
  subst e00
  obtain ⟨a1, e01, rfl, wa1⟩ := DataW.trod_int Try.underlying3 hy01
  simp only [List.cons.injEq, and_true] at e01
  subst e01
  clear hA0 hval0
  refine (rounds_walk a0 a1 wa0 wa1 W).mono fun e W' ⟨he, hb⟩ => ?_
  subst he
  exact ⟨_, rfl, law_post (B := 4) laidOut (by rw [Try.params5]; simp only [List.mem_cons, List.not_mem_nil, or_false, forall_eq_or_imp, forall_eq]; first | exact readable_ratioRounds | (repeat' apply And.intro) <;> first | exact of_decide_eq_true (by kernel_rfl) | kernel_rfl) rfl Try.underlying4 rfl rfl hW' hb⟩

theorem ratioRounds_over : Rows.ratioRoundsRow.holds Try.pinned (OpenSpec.ofChange Rows.ratioRoundsSpec) :=
  OpenClaim.holds_of_wide 5 Try.f5 rfl rfl rfl rfl rfl rfl rfl ⟨rfl, rfl, rfl, rfl, rfl⟩ rfl rfl rfl rfl rfl (by kernel_rfl) Try.func5 (by kernel_rfl)
    (of_decide_eq_true (by kernel_rfl)) (by unfold Func.isWrapper; first | (rw [if_pos (by decide +kernel)]; kernel_rfl) | (rw [if_neg (by decide +kernel)]; exact ⟨rfl, rfl⟩))
    (fun os started H enc _ => ratioRounds_lifted os started H enc)

theorem ratioRounds_holds : Rows.RatioRoundsSaid := ratioRounds_over
#print axioms ratioRounds_holds
end Go.Proofs.Ytmndiejojlmblaa
