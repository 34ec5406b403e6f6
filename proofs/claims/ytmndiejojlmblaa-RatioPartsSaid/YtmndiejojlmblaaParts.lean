/-
  RatioParts: a part of an integer is the product with it, rounded, if this exists; a part that is not negative of a greater integer is not less.
  No condition: for every input.
-/
import Derived.Test.YtmndiejojlmblaaRatS
import Derived.Test.YtmndiejojlmblaaLaw
import Derived.Deep.DeepCutAuto
namespace Go.Proofs.Ytmndiejojlmblaa
set_option linter.unusedSimpArgs false
set_option linter.unusedVariables false
open Go.ChangeShapes Go.WideShapes Go.ChangeAt Go.RowKit

theorem bsize {W w1 : World} (hb : Below W.heap.size W w1) : ∀ b, b < W.heap.size → b < w1.heap.size := fun b h => Nat.lt_of_lt_of_le h hb.size
theorem Row.set2 {w : World} {b : Nat} {x0 x1 : Value} (h : Row w b [x0, x1]) (v0 v1 : Value) : Row ((w.setCell ⟨b, 0, none⟩ v0).setCell ⟨b, 1, none⟩ v1) b [v0, v1] := by
  obtain ⟨T, h⟩ := h
  refine ⟨T, ?_⟩
  simp [World.setCell, Array.getElem?_modify, h]

theorem rnd_scale (way n : Int) {d k : Int} (hd : 1 ≤ d) (hk : 1 ≤ k) : rnd way (n * k) (d * k) = rnd way n d := by
  have e1 : n * k / (d * k) = n / d := Int.mul_ediv_mul_of_pos_left _ _ (by omega)
  have e2 : n * k % (d * k) = n % d * k := by
    have g1 := Int.mul_ediv_add_emod n d
    have g2 := Int.mul_ediv_add_emod (n * k) (d * k)
    rw [e1] at g2
    have g3 : d * k * (n / d) = d * (n / d) * k := by rw [Int.mul_assoc, Int.mul_comm k, ← Int.mul_assoc]
    have g4 : (d * (n / d) + n % d) * k = n * k := by rw [g1]
    rw [Int.add_mul] at g4
    omega
  have e3 : nxB way (n / d) (n % d * k) (d * k) = nxB way (n / d) (n % d) d := by
    have g : ∀ x : Int, (0 < x * k ↔ 0 < x) := fun x => ⟨fun h => by (rcases Int.lt_or_le 0 x with h1 | h1 <;> first | exact h1 | (have := Int.mul_le_mul_of_nonneg_right h1 (show 0 ≤ k by omega); omega)), fun h => Int.mul_pos h (by omega)⟩
    have g1 := g (n % d)
    have g2 := g (2 * (n % d) - d)
    have g3 := g (d - 2 * (n % d))
    rw [Int.sub_mul, Int.mul_assoc] at g2 g3
    unfold nxB
    split
    · rfl
    · split
      · rw [Bool.eq_iff_iff]; simp; exact g1
      · have q1 : decide (d * k < 2 * (n % d * k)) = decide (d < 2 * (n % d)) := by
          rw [Bool.eq_iff_iff]; simp; omega
        have q2 : decide (2 * (n % d * k) = d * k) = decide (2 * (n % d) = d) := by
          rw [Bool.eq_iff_iff]; simp; omega
        rw [q1, q2]
  unfold rnd
  rw [e1, e2, e3]

theorem rnd_same (way : Int) {n d n' d' : Int} (hd : 1 ≤ d) (hd' : 1 ≤ d') (h : n * d' = n' * d) : rnd way n d = rnd way n' d' := by
  rw [← rnd_scale way n hd hd', ← rnd_scale way n' hd' hd, h, Int.mul_comm d d']

theorem rnd_mono (way : Int) {n m d : Int} (hd : 1 ≤ d) (h : n ≤ m) : rnd way n d ≤ rnd way m d := by
  have hq : n / d ≤ m / d := Int.ediv_le_ediv (by omega) h
  have up : ∀ x : Int, rnd way x d = x / d ∨ rnd way x d = x / d + 1 := fun x => by unfold rnd; split <;> simp
  rcases Int.lt_or_eq_of_le hq with h1 | h1
  · rcases up n with a | a <;> rcases up m with b | b <;> omega
  · have g1 := Int.mul_ediv_add_emod n d
    have g2 := Int.mul_ediv_add_emod m d
    have g3 : n % d ≤ m % d := by rw [h1] at g1; omega
    by_cases hx : nxB way (n / d) (n % d) d = true
    · have hy : nxB way (m / d) (m % d) d = true := by
        rw [← h1]
        unfold nxB at hx ⊢
        split
        · simp_all
        · split
          · simp_all; omega
          · simp_all; omega
      rw [rnd_up rfl rfl hx, rnd_up rfl rfl hy]; omega
    · have hx' : nxB way (n / d) (n % d) d = false := by simpa using hx
      rw [rnd_dn rfl rfl hx']
      rcases up m with b | b <;> omega

/-- All that the statement asks of the six results. -/
theorem parts_law {a b k p0 p1 : Int} (hp : vldP p0 p1) (ha : -1000000000 ≤ a) (hb : b ≤ 1000000000) (hab : a ≤ b) (hk : 1 ≤ k) (hk3 : k ≤ 3) :
    (fitE (a * p0) p1 = 0 → (ptErr a p0 p1 k = 0 ∧ rdErr (fitN (a * p0) p1) (fitD (a * p0) p1) k = 0 ∧ ptVal a p0 p1 k = rdVal (fitN (a * p0) p1) (fitD (a * p0) p1) k) ∨
      (ptErr a p0 p1 k = 3 ∧ rdErr (fitN (a * p0) p1) (fitD (a * p0) p1) k = 0 ∧ (1000000000 < rdVal (fitN (a * p0) p1) (fitD (a * p0) p1) k ∨ rdVal (fitN (a * p0) p1) (fitD (a * p0) p1) k < -1000000000))) ∧
    (ptErr a p0 p1 k = 0 → ptErr b p0 p1 k = 0 → 0 ≤ p0 → ptVal a p0 p1 k ≤ ptVal b p0 p1 k) := by
  have hPa : ptP a p0 p1 k := ⟨hp, ⟨hk, hk3⟩, ha, by omega⟩
  have hPb : ptP b p0 p1 k := ⟨hp, ⟨hk, hk3⟩, by omega, hb⟩
  constructor
  · intro hf
    obtain ⟨v, hx, hd⟩ := fit_ok (by have := hp.1; omega) hf
    obtain ⟨o1, o2⟩ := rd_ok (a := fitN (a * p0) p1) (b := fitD (a * p0) p1) (way := k) ⟨v, hk, hk3⟩
    have e : rnd k (fitN (a * p0) p1) (fitD (a * p0) p1) = rnd k (a * p0) p1 := rnd_same k (by omega) hp.1 (by rw [hx]; exact Int.mul_comm _ _)
    rw [o1, o2, e]
    by_cases hi : ptIn a p0 p1 k
    · obtain ⟨q1, q2⟩ := pt_ok hPa hi
      exact Or.inl ⟨q2, rfl, q1⟩
    · obtain ⟨q1, q2⟩ := pt_far hPa hi
      refine Or.inr ⟨q2, rfl, ?_⟩
      unfold ptIn at hi; omega
  · intro h1 h2 h3
    by_cases hi : ptIn a p0 p1 k
    · by_cases hj : ptIn b p0 p1 k
      · rw [(pt_ok hPa hi).1, (pt_ok hPb hj).1]
        exact rnd_mono k hp.1 (Int.mul_le_mul_of_nonneg_right hab h3)
      · rw [(pt_far hPb hj).2] at h2; omega
    · rw [(pt_far hPa hi).2] at h1; omega

theorem Mul_1 (a p0 p1 : Int) (w : World) (h1 : vldP a 1) (h2 : vldP p0 p1) :
    Calls Try.prog 13 #[.agg #[.int .i64 a, .int .i64 1], .agg #[.int .i64 p0, .int .i64 p1]] w fun e w' =>
      e = .returned (.tuple #[.agg #[.int .i64 (fitN (a * p0) p1), .int .i64 (fitD (a * p0) p1)], .int .i64 (fitE (a * p0) p1)]) ∧ Below w.heap.size w w' := by
  have h := Mul_v a 1 p0 p1 w h1 h2
  rwa [Int.one_mul] at h

theorem vld_int {a : Int} (h1 : -1000000000 ≤ a) (h2 : a ≤ 1000000000) : vldP a 1 := ⟨by omega, by omega, h1, h2, by simp [gI]⟩

attribute [local go_sem ↓] eql_rat neq_rat


set_option maxRecDepth 100000 in
set_option maxHeartbeats 4000000 in
theorem parts_walk (n m p0 p1 y : Int) (wn : (Lit.int .i32 n).wf = true) (wm : (Lit.int .u16 m).wf = true) (_ : (Lit.int .i64 p0).wf = true) (_ : (Lit.int .i64 p1).wf = true) (wy : (Lit.int .u8 y).wf = true) (w : World) :
    Calls Try.prog 6 #[.int .i32 n, .int .u16 m, .agg #[.int .i64 p0, .int .i64 p1], .int .u8 y] w fun e w' => e = .returned (.bool true) ∧ Below w.heap.size w w' := by
  obtain ⟨n1, n2⟩ := bd_i32 wn
  obtain ⟨m1, m2⟩ := bd_u16 wm
  obtain ⟨y1, y2⟩ := bd_u8 wy
  clear wn wm wy
  obtain ⟨k, hk⟩ : ∃ k, 1 + y % 3 = k := ⟨_, rfl⟩
  obtain ⟨a, ha⟩ : ∃ a, n.tmod 1000000000 = a := ⟨_, rfl⟩
  obtain ⟨b, hb⟩ : ∃ b, a + m = b := ⟨_, rfl⟩
  have k1 : 1 ≤ k := by omega
  have k3 : k ≤ 3 := by omega
  have a1 : -1000000000 < a := by rw [← ha]; exact Int.lt_tmod_of_pos _ (by omega)
  have a2 : a < 1000000000 := by rw [← ha]; exact Int.tmod_lt_of_pos _ (by omega)
  have ab : a ≤ b := by omega
  by_cases vp : vldP p0 p1
  · have ep := vld_true vp
    by_cases hb2 : b ≤ 1000000000
    · obtain ⟨L1, L2⟩ := parts_law vp (by omega : -1000000000 ≤ a) hb2 ab k1 k3
      have va := vld_int (a := a) (by omega) (by omega)
      go_enter Try.func6, Try.ntmps6
      go_wp2_with fail
      refine (head_any _).mono ?_
      rintro e w1 ⟨rfl, hb1⟩
      have R_p_1 : Row w1 (w.heap.size) [.int .i64 (p0), .int .i64 (p1)] := by (repeat' (first | (with_reducible assumption) | (with_reducible refine Row.new' _ _ _ (by first | rfl | (simp; done) | omega)) | (with_reducible refine Row.alloc ?_ _) | (with_reducible refine Row.drew ?_) | (with_reducible refine Row.drewN ?_ _) | (with_reducible refine Row.step ?_ (by with_reducible assumption))))
      have c_p_0_1 := R_p_1.cell 0 rfl
      have c_p_1_1 := R_p_1.cell 1 rfl
      have l_p_1 := R_p_1.lt
      have HB1 : Below w.heap.size w w1 := by (repeat' (first | (with_reducible exact Below.refl _ _) | (with_reducible assumption) | (with_reducible exact Bw.out (by with_reducible assumption)) | (with_reducible refine bw_alloc ?_ _) | (with_reducible refine bw_step ?_ (by with_reducible assumption)) | (with_reducible refine Below.alloc ?_ ?_ _) | (with_reducible refine Below.drew ?_) | (with_reducible refine below_drewN ?_ _) | (with_reducible refine Below.setCell ?_ ?_ _) | (with_reducible refine below_step ?_ (by with_reducible assumption) ?_) | (with_reducible exact Nat.le_refl _) | omega | (simp; omega) | (simp; done)))
      go_wp2_with fail
      refine (R_valid_any _ _ _).mono ?_
      rintro e w2 ⟨rfl, hb2⟩
      have R_p_2 : Row w2 (w.heap.size) [.int .i64 (p0), .int .i64 (p1)] := by (repeat' (first | (with_reducible assumption) | (with_reducible refine Row.new' _ _ _ (by first | rfl | (simp; done) | omega)) | (with_reducible refine Row.alloc ?_ _) | (with_reducible refine Row.drew ?_) | (with_reducible refine Row.drewN ?_ _) | (with_reducible refine Row.step ?_ (by with_reducible assumption))))
      have c_p_0_2 := R_p_2.cell 0 rfl
      have c_p_1_2 := R_p_2.cell 1 rfl
      have l_p_2 := R_p_2.lt
      have HB2 : Below w.heap.size w w2 := by (repeat' (first | (with_reducible exact Below.refl _ _) | (with_reducible assumption) | (with_reducible exact Bw.out (by with_reducible assumption)) | (with_reducible refine bw_alloc ?_ _) | (with_reducible refine bw_step ?_ (by with_reducible assumption)) | (with_reducible refine Below.alloc ?_ ?_ _) | (with_reducible refine Below.drew ?_) | (with_reducible refine below_drewN ?_ _) | (with_reducible refine Below.setCell ?_ ?_ _) | (with_reducible refine below_step ?_ (by with_reducible assumption) ?_) | (with_reducible exact Nat.le_refl _) | omega | (simp; omega) | (simp; done)))
      clear R_p_1 c_p_0_1 c_p_1_1 l_p_1 hb1 HB1
      go_wp2_with fail
      refine (Part_any _ _ _ _ _).mono ?_
      rintro e w3 ⟨rfl, hb3⟩
      have R_p_3 : Row w3 (w.heap.size) [.int .i64 (p0), .int .i64 (p1)] := by (repeat' (first | (with_reducible assumption) | (with_reducible refine Row.new' _ _ _ (by first | rfl | (simp; done) | omega)) | (with_reducible refine Row.alloc ?_ _) | (with_reducible refine Row.drew ?_) | (with_reducible refine Row.drewN ?_ _) | (with_reducible refine Row.step ?_ (by with_reducible assumption))))
      have c_p_0_3 := R_p_3.cell 0 rfl
      have c_p_1_3 := R_p_3.cell 1 rfl
      have l_p_3 := R_p_3.lt
      have HB3 : Below w.heap.size w w3 := by (repeat' (first | (with_reducible exact Below.refl _ _) | (with_reducible assumption) | (with_reducible exact Bw.out (by with_reducible assumption)) | (with_reducible refine bw_alloc ?_ _) | (with_reducible refine bw_step ?_ (by with_reducible assumption)) | (with_reducible refine Below.alloc ?_ ?_ _) | (with_reducible refine Below.drew ?_) | (with_reducible refine below_drewN ?_ _) | (with_reducible refine Below.setCell ?_ ?_ _) | (with_reducible refine below_step ?_ (by with_reducible assumption) ?_) | (with_reducible exact Nat.le_refl _) | omega | (simp; omega) | (simp; done)))
      clear R_p_2 c_p_0_2 c_p_1_2 l_p_2 hb2 HB2
      go_wp2_with fail
      refine (Part_any _ _ _ _ _).mono ?_
      rintro e w4 ⟨rfl, hb4⟩
      have R_p_4 : Row w4 (w.heap.size) [.int .i64 (p0), .int .i64 (p1)] := by (repeat' (first | (with_reducible assumption) | (with_reducible refine Row.new' _ _ _ (by first | rfl | (simp; done) | omega)) | (with_reducible refine Row.alloc ?_ _) | (with_reducible refine Row.drew ?_) | (with_reducible refine Row.drewN ?_ _) | (with_reducible refine Row.step ?_ (by with_reducible assumption))))
      have c_p_0_4 := R_p_4.cell 0 rfl
      have c_p_1_4 := R_p_4.cell 1 rfl
      have l_p_4 := R_p_4.lt
      have HB4 : Below w.heap.size w w4 := by (repeat' (first | (with_reducible exact Below.refl _ _) | (with_reducible assumption) | (with_reducible exact Bw.out (by with_reducible assumption)) | (with_reducible refine bw_alloc ?_ _) | (with_reducible refine bw_step ?_ (by with_reducible assumption)) | (with_reducible refine Below.alloc ?_ ?_ _) | (with_reducible refine Below.drew ?_) | (with_reducible refine below_drewN ?_ _) | (with_reducible refine Below.setCell ?_ ?_ _) | (with_reducible refine below_step ?_ (by with_reducible assumption) ?_) | (with_reducible exact Nat.le_refl _) | omega | (simp; omega) | (simp; done)))
      clear R_p_3 c_p_0_3 c_p_1_3 l_p_3 hb3 HB3
      go_wp2_with fail
      go_cut [17, 18] (fun s0 s1 wx => ∃ g_q : Nat, s0 = .pointer (some ⟨g_q, 0, none⟩) ∧ s1 = .int .i64 (fitE (a * p0) p1) ∧ Row wx g_q [.int .i64 (fitN (a * p0) p1), .int .i64 (fitD (a * p0) p1)] ∧ Row wx (w.heap.size) [.int .i64 (p0), .int .i64 (p1)] ∧ Bw w.heap.size w wx)
      case first =>
        go_region_held3 (fun w' => w'.cell? ⟨w.heap.size, 0, none⟩ = some (.int .i64 (p0)) ∧ w'.cell? ⟨w.heap.size, 1, none⟩ = some (.int .i64 (p1)) ∧ Row w' (w.heap.size) [.int .i64 (p0), .int .i64 (p1)] ∧ Bw w.heap.size w w')
          (((try go_split_ands); exact ⟨Row.cell (cs := [.int .i64 (p0), .int .i64 (p1)]) (by (repeat' (first | (with_reducible assumption) | (with_reducible refine Row.new' _ _ _ (by first | rfl | (simp; done) | omega)) | (with_reducible refine Row.alloc ?_ _) | (with_reducible refine Row.drew ?_) | (with_reducible refine Row.drewN ?_ _) | (with_reducible refine Row.step ?_ (by with_reducible assumption)) | (with_reducible refine Row.other ?_ (by first | omega | (simp; done) | (simp; omega)) _)))) 0 rfl, Row.cell (cs := [.int .i64 (p0), .int .i64 (p1)]) (by (repeat' (first | (with_reducible assumption) | (with_reducible refine Row.new' _ _ _ (by first | rfl | (simp; done) | omega)) | (with_reducible refine Row.alloc ?_ _) | (with_reducible refine Row.drew ?_) | (with_reducible refine Row.drewN ?_ _) | (with_reducible refine Row.step ?_ (by with_reducible assumption)) | (with_reducible refine Row.other ?_ (by first | omega | (simp; done) | (simp; omega)) _)))) 1 rfl, by (repeat' (first | (with_reducible assumption) | (with_reducible refine Row.new' _ _ _ (by first | rfl | (simp; done) | omega)) | (with_reducible refine Row.alloc ?_ _) | (with_reducible refine Row.drew ?_) | (with_reducible refine Row.drewN ?_ _) | (with_reducible refine Row.step ?_ (by with_reducible assumption)) | (with_reducible refine Row.other ?_ (by first | omega | (simp; done) | (simp; omega)) _))), (by (repeat' (first | (with_reducible exact Below.refl _ _) | (with_reducible assumption) | (with_reducible exact Bw.out (by with_reducible assumption)) | (with_reducible refine bw_alloc ?_ _) | (with_reducible refine bw_step ?_ (by with_reducible assumption)) | (with_reducible refine Below.alloc ?_ ?_ _) | (with_reducible refine Below.drew ?_) | (with_reducible refine below_drewN ?_ _) | (with_reducible refine Below.setCell ?_ ?_ _) | (with_reducible refine below_step ?_ (by with_reducible assumption) ?_) | (with_reducible exact Nat.le_refl _) | omega | (simp; omega) | (simp; done))) : Below _ _ _)⟩))
          (first | (go_at_call 14; (with_reducible refine (law_rat_any _ _ _).mono ?_); rintro e wx ⟨rfl, hbx⟩; obtain ⟨hcx, hzx⟩ := bcell hbx; have hsx := hbx.size; (try simp at hsx); have hsy := bsize hbx) | (go_at_call 13; (with_reducible refine (Mul_1 _ _ _ _ va vp).mono ?_); rintro e wx ⟨rfl, hbx⟩; obtain ⟨hcx, hzx⟩ := bcell hbx; have hsx := hbx.size; (try simp at hsx); have hsy := bsize hbx))
        all_goals
          rename_i hH
          obtain ⟨_, _, hH_p, hHB⟩ := hH
          go_wp2_with fail
          go_meet
          exact ⟨_, rfl, rfl, by first | (with_reducible exact Row.new' _ _ _ (by simp)) | (refine Row.set2 (x0 := .int .i64 0) (x1 := .int .i64 0) ?_ _ _; (repeat' (first | (with_reducible assumption) | (with_reducible refine Row.new' _ _ _ (by first | rfl | (simp; done) | omega)) | (with_reducible refine Row.alloc ?_ _) | (with_reducible refine Row.drew ?_) | (with_reducible refine Row.drewN ?_ _) | (with_reducible refine Row.step ?_ (by with_reducible assumption)) | (with_reducible refine Row.other ?_ (by first | omega | (simp; done) | (simp; omega)) _)))), hH_p, hHB⟩
      case' rest =>
        obtain ⟨g_q, rfl, rfl, R_q_5, R_p_5, HB5⟩ := hcut
        obtain ⟨w5, hw5⟩ : ∃ wd, wd = wc := ⟨_, rfl⟩
        subst hw5
        replace HB5 := HB5.out
        clear R_p_4 c_p_0_4 c_p_1_4 l_p_4 hb4 HB4
        have c_p_0_5 := R_p_5.cell 0 rfl
        have c_p_1_5 := R_p_5.cell 1 rfl
        have l_p_5 := R_p_5.lt
        have c_q_0_5 := R_q_5.cell 0 rfl
        have c_q_1_5 := R_q_5.cell 1 rfl
        have l_q_5 := R_q_5.lt
      case rest =>
        rcases fitE_or (a * p0) p1 with f | f
        · rcases L1 f with ⟨e1, e2, e3⟩ | ⟨e1, e2, e3⟩
          · have H2 := Lib.hid L2
            have H3 := Lib.hid e3
            have H1 := Lib.hid e1
            go_wp2_with fail
            refine (Round_any _ _ _ _).mono ?_
            rintro e w6 ⟨rfl, hb6⟩
            have R_p_6 : Row w6 (w.heap.size) [.int .i64 (p0), .int .i64 (p1)] := by (repeat' (first | (with_reducible assumption) | (with_reducible refine Row.new' _ _ _ (by first | rfl | (simp; done) | omega)) | (with_reducible refine Row.alloc ?_ _) | (with_reducible refine Row.drew ?_) | (with_reducible refine Row.drewN ?_ _) | (with_reducible refine Row.step ?_ (by with_reducible assumption))))
            have c_p_0_6 := R_p_6.cell 0 rfl
            have c_p_1_6 := R_p_6.cell 1 rfl
            have l_p_6 := R_p_6.lt
            have R_q_6 : Row w6 (g_q) [.int .i64 (fitN (a * p0) p1), .int .i64 (fitD (a * p0) p1)] := by (repeat' (first | (with_reducible assumption) | (with_reducible refine Row.new' _ _ _ (by first | rfl | (simp; done) | omega)) | (with_reducible refine Row.alloc ?_ _) | (with_reducible refine Row.drew ?_) | (with_reducible refine Row.drewN ?_ _) | (with_reducible refine Row.step ?_ (by with_reducible assumption))))
            have c_q_0_6 := R_q_6.cell 0 rfl
            have c_q_1_6 := R_q_6.cell 1 rfl
            have l_q_6 := R_q_6.lt
            have HB6 : Below w.heap.size w w6 := by (repeat' (first | (with_reducible exact Below.refl _ _) | (with_reducible assumption) | (with_reducible exact Bw.out (by with_reducible assumption)) | (with_reducible refine bw_alloc ?_ _) | (with_reducible refine bw_step ?_ (by with_reducible assumption)) | (with_reducible refine Below.alloc ?_ ?_ _) | (with_reducible refine Below.drew ?_) | (with_reducible refine below_drewN ?_ _) | (with_reducible refine Below.setCell ?_ ?_ _) | (with_reducible refine below_step ?_ (by with_reducible assumption) ?_) | (with_reducible exact Nat.le_refl _) | omega | (simp; omega) | (simp; done)))
            clear R_p_5 c_p_0_5 c_p_1_5 l_p_5 R_q_5 c_q_0_5 c_q_1_5 l_q_5 HB5
            go_wp2_with fail
            all_goals
              go_ret
              refine ⟨ret_bool ?_, ?_⟩
              · first | rfl | (have hh := H2.out H1.out (by assumption) (by omega); rw [H3.out] at hh; simp [hh])
              (repeat' (first | (with_reducible exact Below.refl _ _) | (with_reducible assumption) | (with_reducible exact Bw.out (by with_reducible assumption)) | (with_reducible refine bw_alloc ?_ _) | (with_reducible refine bw_step ?_ (by with_reducible assumption)) | (with_reducible refine Below.alloc ?_ ?_ _) | (with_reducible refine Below.drew ?_) | (with_reducible refine below_drewN ?_ _) | (with_reducible refine Below.setCell ?_ ?_ _) | (with_reducible refine below_step ?_ (by with_reducible assumption) ?_) | (with_reducible exact Nat.le_refl _) | omega | (simp; omega) | (simp; done)))
          · have H1 := Lib.hid e1
            go_wp2_with fail
            refine (Round_any _ _ _ _).mono ?_
            rintro e w6 ⟨rfl, hb6⟩
            have R_p_6 : Row w6 (w.heap.size) [.int .i64 (p0), .int .i64 (p1)] := by (repeat' (first | (with_reducible assumption) | (with_reducible refine Row.new' _ _ _ (by first | rfl | (simp; done) | omega)) | (with_reducible refine Row.alloc ?_ _) | (with_reducible refine Row.drew ?_) | (with_reducible refine Row.drewN ?_ _) | (with_reducible refine Row.step ?_ (by with_reducible assumption))))
            have c_p_0_6 := R_p_6.cell 0 rfl
            have c_p_1_6 := R_p_6.cell 1 rfl
            have l_p_6 := R_p_6.lt
            have R_q_6 : Row w6 (g_q) [.int .i64 (fitN (a * p0) p1), .int .i64 (fitD (a * p0) p1)] := by (repeat' (first | (with_reducible assumption) | (with_reducible refine Row.new' _ _ _ (by first | rfl | (simp; done) | omega)) | (with_reducible refine Row.alloc ?_ _) | (with_reducible refine Row.drew ?_) | (with_reducible refine Row.drewN ?_ _) | (with_reducible refine Row.step ?_ (by with_reducible assumption))))
            have c_q_0_6 := R_q_6.cell 0 rfl
            have c_q_1_6 := R_q_6.cell 1 rfl
            have l_q_6 := R_q_6.lt
            have HB6 : Below w.heap.size w w6 := by (repeat' (first | (with_reducible exact Below.refl _ _) | (with_reducible assumption) | (with_reducible exact Bw.out (by with_reducible assumption)) | (with_reducible refine bw_alloc ?_ _) | (with_reducible refine bw_step ?_ (by with_reducible assumption)) | (with_reducible refine Below.alloc ?_ ?_ _) | (with_reducible refine Below.drew ?_) | (with_reducible refine below_drewN ?_ _) | (with_reducible refine Below.setCell ?_ ?_ _) | (with_reducible refine below_step ?_ (by with_reducible assumption) ?_) | (with_reducible exact Nat.le_refl _) | omega | (simp; omega) | (simp; done)))
            clear R_p_5 c_p_0_5 c_p_1_5 l_p_5 R_q_5 c_q_0_5 c_q_1_5 l_q_5 HB5
            rcases e3 with e3 | e3
            all_goals
              go_wp2_with fail
              all_goals
                go_ret
                refine ⟨ret_bool ?_, ?_⟩
                · rfl
                (repeat' (first | (with_reducible exact Below.refl _ _) | (with_reducible assumption) | (with_reducible exact Bw.out (by with_reducible assumption)) | (with_reducible refine bw_alloc ?_ _) | (with_reducible refine bw_step ?_ (by with_reducible assumption)) | (with_reducible refine Below.alloc ?_ ?_ _) | (with_reducible refine Below.drew ?_) | (with_reducible refine below_drewN ?_ _) | (with_reducible refine Below.setCell ?_ ?_ _) | (with_reducible refine below_step ?_ (by with_reducible assumption) ?_) | (with_reducible exact Nat.le_refl _) | omega | (simp; omega) | (simp; done)))
        · clear L1
          have H2 := Lib.hid L2
          go_wp2_with fail
          all_goals
            go_ret
            refine ⟨ret_bool ?_, ?_⟩
            · first | rfl | (have hh := H2.out (by assumption) (by assumption) (by omega); simp [hh])
            (repeat' (first | (with_reducible exact Below.refl _ _) | (with_reducible assumption) | (with_reducible exact Bw.out (by with_reducible assumption)) | (with_reducible refine bw_alloc ?_ _) | (with_reducible refine bw_step ?_ (by with_reducible assumption)) | (with_reducible refine Below.alloc ?_ ?_ _) | (with_reducible refine Below.drew ?_) | (with_reducible refine below_drewN ?_ _) | (with_reducible refine Below.setCell ?_ ?_ _) | (with_reducible refine below_step ?_ (by with_reducible assumption) ?_) | (with_reducible exact Nat.le_refl _) | omega | (simp; omega) | (simp; done)))
    ·
      go_enter Try.func6, Try.ntmps6
      go_wp2_with fail
      refine (head_any _).mono ?_
      rintro e w1 ⟨rfl, hb1⟩
      have R_p_1 : Row w1 (w.heap.size) [.int .i64 (p0), .int .i64 (p1)] := by (repeat' (first | (with_reducible assumption) | (with_reducible refine Row.new' _ _ _ (by first | rfl | (simp; done) | omega)) | (with_reducible refine Row.alloc ?_ _) | (with_reducible refine Row.drew ?_) | (with_reducible refine Row.drewN ?_ _) | (with_reducible refine Row.step ?_ (by with_reducible assumption))))
      have c_p_0_1 := R_p_1.cell 0 rfl
      have c_p_1_1 := R_p_1.cell 1 rfl
      have l_p_1 := R_p_1.lt
      have HB1 : Below w.heap.size w w1 := by (repeat' (first | (with_reducible exact Below.refl _ _) | (with_reducible assumption) | (with_reducible exact Bw.out (by with_reducible assumption)) | (with_reducible refine bw_alloc ?_ _) | (with_reducible refine bw_step ?_ (by with_reducible assumption)) | (with_reducible refine Below.alloc ?_ ?_ _) | (with_reducible refine Below.drew ?_) | (with_reducible refine below_drewN ?_ _) | (with_reducible refine Below.setCell ?_ ?_ _) | (with_reducible refine below_step ?_ (by with_reducible assumption) ?_) | (with_reducible exact Nat.le_refl _) | omega | (simp; omega) | (simp; done)))
      go_wp2_with fail
      refine (R_valid_any _ _ _).mono ?_
      rintro e w2 ⟨rfl, hb2⟩
      have R_p_2 : Row w2 (w.heap.size) [.int .i64 (p0), .int .i64 (p1)] := by (repeat' (first | (with_reducible assumption) | (with_reducible refine Row.new' _ _ _ (by first | rfl | (simp; done) | omega)) | (with_reducible refine Row.alloc ?_ _) | (with_reducible refine Row.drew ?_) | (with_reducible refine Row.drewN ?_ _) | (with_reducible refine Row.step ?_ (by with_reducible assumption))))
      have c_p_0_2 := R_p_2.cell 0 rfl
      have c_p_1_2 := R_p_2.cell 1 rfl
      have l_p_2 := R_p_2.lt
      have HB2 : Below w.heap.size w w2 := by (repeat' (first | (with_reducible exact Below.refl _ _) | (with_reducible assumption) | (with_reducible exact Bw.out (by with_reducible assumption)) | (with_reducible refine bw_alloc ?_ _) | (with_reducible refine bw_step ?_ (by with_reducible assumption)) | (with_reducible refine Below.alloc ?_ ?_ _) | (with_reducible refine Below.drew ?_) | (with_reducible refine below_drewN ?_ _) | (with_reducible refine Below.setCell ?_ ?_ _) | (with_reducible refine below_step ?_ (by with_reducible assumption) ?_) | (with_reducible exact Nat.le_refl _) | omega | (simp; omega) | (simp; done)))
      clear R_p_1 c_p_0_1 c_p_1_1 l_p_1 hb1 HB1
      go_wp2_with fail
      go_ret
      refine ⟨rfl, ?_⟩
      (repeat' (first | (with_reducible exact Below.refl _ _) | (with_reducible assumption) | (with_reducible exact Bw.out (by with_reducible assumption)) | (with_reducible refine bw_alloc ?_ _) | (with_reducible refine bw_step ?_ (by with_reducible assumption)) | (with_reducible refine Below.alloc ?_ ?_ _) | (with_reducible refine Below.drew ?_) | (with_reducible refine below_drewN ?_ _) | (with_reducible refine Below.setCell ?_ ?_ _) | (with_reducible refine below_step ?_ (by with_reducible assumption) ?_) | (with_reducible exact Nat.le_refl _) | omega | (simp; omega) | (simp; done)))
  · have ep := vld_false vp
    go_enter Try.func6, Try.ntmps6
    go_wp2_with fail
    refine (head_any _).mono ?_
    rintro e w1 ⟨rfl, hb1⟩
    have R_p_1 : Row w1 (w.heap.size) [.int .i64 (p0), .int .i64 (p1)] := by (repeat' (first | (with_reducible assumption) | (with_reducible refine Row.new' _ _ _ (by first | rfl | (simp; done) | omega)) | (with_reducible refine Row.alloc ?_ _) | (with_reducible refine Row.drew ?_) | (with_reducible refine Row.drewN ?_ _) | (with_reducible refine Row.step ?_ (by with_reducible assumption))))
    have c_p_0_1 := R_p_1.cell 0 rfl
    have c_p_1_1 := R_p_1.cell 1 rfl
    have l_p_1 := R_p_1.lt
    have HB1 : Below w.heap.size w w1 := by (repeat' (first | (with_reducible exact Below.refl _ _) | (with_reducible assumption) | (with_reducible exact Bw.out (by with_reducible assumption)) | (with_reducible refine bw_alloc ?_ _) | (with_reducible refine bw_step ?_ (by with_reducible assumption)) | (with_reducible refine Below.alloc ?_ ?_ _) | (with_reducible refine Below.drew ?_) | (with_reducible refine below_drewN ?_ _) | (with_reducible refine Below.setCell ?_ ?_ _) | (with_reducible refine below_step ?_ (by with_reducible assumption) ?_) | (with_reducible exact Nat.le_refl _) | omega | (simp; omega) | (simp; done)))
    go_wp2_with fail
    refine (R_valid_any _ _ _).mono ?_
    rintro e w2 ⟨rfl, hb2⟩
    have R_p_2 : Row w2 (w.heap.size) [.int .i64 (p0), .int .i64 (p1)] := by (repeat' (first | (with_reducible assumption) | (with_reducible refine Row.new' _ _ _ (by first | rfl | (simp; done) | omega)) | (with_reducible refine Row.alloc ?_ _) | (with_reducible refine Row.drew ?_) | (with_reducible refine Row.drewN ?_ _) | (with_reducible refine Row.step ?_ (by with_reducible assumption))))
    have c_p_0_2 := R_p_2.cell 0 rfl
    have c_p_1_2 := R_p_2.cell 1 rfl
    have l_p_2 := R_p_2.lt
    have HB2 : Below w.heap.size w w2 := by (repeat' (first | (with_reducible exact Below.refl _ _) | (with_reducible assumption) | (with_reducible exact Bw.out (by with_reducible assumption)) | (with_reducible refine bw_alloc ?_ _) | (with_reducible refine bw_step ?_ (by with_reducible assumption)) | (with_reducible refine Below.alloc ?_ ?_ _) | (with_reducible refine Below.drew ?_) | (with_reducible refine below_drewN ?_ _) | (with_reducible refine Below.setCell ?_ ?_ _) | (with_reducible refine below_step ?_ (by with_reducible assumption) ?_) | (with_reducible exact Nat.le_refl _) | omega | (simp; omega) | (simp; done)))
    clear R_p_1 c_p_0_1 c_p_1_1 l_p_1 hb1 HB1
    go_wp2_with fail
    go_ret
    refine ⟨rfl, ?_⟩
    (repeat' (first | (with_reducible exact Below.refl _ _) | (with_reducible assumption) | (with_reducible exact Bw.out (by with_reducible assumption)) | (with_reducible refine bw_alloc ?_ _) | (with_reducible refine bw_step ?_ (by with_reducible assumption)) | (with_reducible refine Below.alloc ?_ ?_ _) | (with_reducible refine Below.drew ?_) | (with_reducible refine below_drewN ?_ _) | (with_reducible refine Below.setCell ?_ ?_ _) | (with_reducible refine below_step ?_ (by with_reducible assumption) ?_) | (with_reducible exact Nat.le_refl _) | omega | (simp; omega) | (simp; done)))

set_option maxRecDepth 100000 in
theorem ratioParts_lifted (os : Os) (started : os.Started) (H : Type) (enc : TypeId × Value → H) :
    ReturnsInHanded {} Try.checked os 6 .any (Rows.ratioPartsSpec.pre6 enc Try.prog Try.f6 Rows.ratioPartsRow.domain false) (Rows.ratioPartsSpec.post enc Try.prog Try.f6 false true false false) := by
  refine returnsInHanded_of_change (C := Try.checked) own started (by kernel_rfl) Try.func6
    (ChangeSpec.witness6 (enc := enc) (C := Try.checked) false ⟨#[], #[.int .i32 0, .int .u16 0, .agg #[.int .i64 0, .int .i64 0], .int .u8 0], []⟩ 8 (by kernel_rfl) (by kernel_rfl) (by kernel_rfl) (by kernel_rfl)) ?_
  intro W base args ds gs before hval0 hW _ _
  have hval : ∀ (j : Nat) t v, Try.f6.params[j]? = some t → args[j]? = some v → Value.okWide Try.prog W .any base t v := hval0
  have hW' := hW
  obtain ⟨p, q, hA0, hV, rfl, hfz, hnd⟩ := hW
  obtain ⟨rfl, rfl⟩ := trodVars_none hV
  have hA : DataW.TrodAll enc Try.prog W 0 (fun _ => true) true Try.f6.params.toList args.toList ds p := hA0
  rw [Try.params6] at hA hval
  obtain ⟨v0, vs0, d0, ds0, p0, q0, hargs, rfl, rfl, h0, r0⟩ := trodAll_cons hA
  obtain ⟨v1, vs1, d1, ds1, p1, q1, rfl, rfl, rfl, h1, r1⟩ := trodAll_cons r0
  obtain ⟨v2, vs2, d2, ds2, p2, q2, rfl, rfl, rfl, h2, r2⟩ := trodAll_cons r1
  obtain ⟨v3, vs3, d3, ds3, p3, q3, rfl, rfl, rfl, h3, r3⟩ := trodAll_cons r2
  obtain ⟨rfl, rfl, rfl⟩ := trodAll_nil r3
  obtain rfl : args = #[v0, v1, v2, v3] := by cases args; simp_all
  obtain ⟨n, rfl, rfl, rfl, wn⟩ := open_int Try.underlying21 (hval 0 21 v0 rfl rfl) h0
  obtain ⟨m, rfl, rfl, rfl, wm⟩ := open_int Try.underlying36 (hval 1 36 v1 rfl rfl) h1
  obtain ⟨c20, c21, y20, y21, m2, rfl, rfl, rfl, hy20, hy21⟩ := Go.Joins.open_agg2 Try.underlying24 (by kernel_rfl) (by kernel_rfl) (hval 2 24 v2 rfl rfl) h2
  obtain ⟨p0, e20, rfl, wp0⟩ := DataW.trod_int Try.underlying3 hy20
  simp only [List.cons.injEq, and_true] at e20
  subst e20
  obtain ⟨p1, e21, rfl, wp1⟩ := DataW.trod_int Try.underlying3 hy21
  simp only [List.cons.injEq, and_true] at e21
  subst e21
  obtain ⟨y, rfl, rfl, rfl, wy⟩ := open_int Try.underlying5 (hval 3 5 v3 rfl rfl) h3
  clear hA0 hval0
  refine (parts_walk n m p0 p1 y wn wm wp0 wp1 wy W).mono fun e W' ⟨he, hb⟩ => ?_
  subst he
  exact ⟨_, rfl, law_post (B := 4) laidOut (by rw [Try.params6]; simp only [List.mem_cons, List.not_mem_nil, or_false, forall_eq_or_imp, forall_eq]; first | exact readable_ratioParts | (repeat' apply And.intro) <;> first | exact of_decide_eq_true (by kernel_rfl) | kernel_rfl) rfl Try.underlying4 rfl rfl hW' hb⟩

theorem ratioParts_over : Rows.ratioPartsRow.holds Try.pinned (OpenSpec.ofChange Rows.ratioPartsSpec) :=
  OpenClaim.holds_of_wide 6 Try.f6 rfl rfl rfl rfl rfl rfl rfl ⟨rfl, rfl, rfl, rfl, rfl⟩ rfl rfl rfl rfl rfl (by kernel_rfl) Try.func6 (by kernel_rfl)
    (of_decide_eq_true (by kernel_rfl)) (by unfold Func.isWrapper; first | (rw [if_pos (by decide +kernel)]; kernel_rfl) | (rw [if_neg (by decide +kernel)]; exact ⟨rfl, rfl⟩))
    (fun os started H enc _ => ratioParts_lifted os started H enc)

theorem ratioParts_holds : Rows.RatioPartsSaid := ratioParts_over
#print axioms ratioParts_holds
end Go.Proofs.Ytmndiejojlmblaa
