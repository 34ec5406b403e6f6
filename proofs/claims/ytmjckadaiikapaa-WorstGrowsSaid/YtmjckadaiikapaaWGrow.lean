/-
  WorstGrows: with one more channel cut off, one room more sold, or a share greater by one no fewer guests are walked, with one room more no more; sales, shares and rooms make a difference of at most 1 each.
  No condition: for every input.
-/
import Derived.Test.YtmjckadaiikapaaWorstH
import Derived.Test.YtmjckadaiikapaaOpenN
import Derived.Test.YtmjckadaiikapaaRow3
import Derived.Deep.DeepCutAuto
namespace Go.Proofs.Ytmjckadaiikapaa
set_option linter.unusedSimpArgs false
set_option linter.unusedVariables false
open Go.ChangeShapes Go.WideShapes Go.ChangeAt Go.RowKit

theorem OwnI.slc {w : World} {g n c : Nat} {ys : List Int} (h : OwnI w g ys) (hl : ys.length = n) (h1 : n ≤ c) (h2 : c ≤ maxLen) : SlC w (some ⟨g, 0, none⟩) n c ys := by
  subst hl
  exact ⟨rfl, _, _, rfl, h.sl rfl, h1, h2⟩
theorem grow_one {r s : Int} {zs : List Int} {c : Int} (h : usB r s zs c = true) : ifI (waE r s zs c) (wkI r s zs c.toNat) 0 = wkI r s zs c.toNat ∧ ifI (waE r s zs c) 0 1 = 0 := by
  have e : waE r s zs c = true := h
  rw [e]; exact ⟨rfl, rfl⟩
theorem grow_walked {r s : Int} {zs ys : List Int} {m : Nat} (h0 : usB r s zs m = true) (h1 : usB r (s + 1) zs m = true) (h2 : usB r s ys m = true) (h3 : usB (r + 1) s zs m = true) (hm : m + 1 ≤ 30) :
    (ifI (waE r s zs m) (wkI r s zs (m : Int).toNat) 0 = wkI r s zs m ∧ ifI (waE r s zs m) 0 1 = 0) ∧
    (ifI (waE r s zs ((m : Int) + 1)) (wkI r s zs ((m : Int) + 1).toNat) 0 = wkI r s zs (m + 1) ∧ ifI (waE r s zs ((m : Int) + 1)) 0 1 = 0) ∧
    (ifI (waE r (s + 1) zs m) (wkI r (s + 1) zs (m : Int).toNat) 0 = wkI r (s + 1) zs m ∧ ifI (waE r (s + 1) zs m) 0 1 = 0) ∧
    (ifI (waE r s ys m) (wkI r s ys (m : Int).toNat) 0 = wkI r s ys m ∧ ifI (waE r s ys m) 0 1 = 0) ∧
    (ifI (waE (r + 1) s zs m) (wkI (r + 1) s zs (m : Int).toNat) 0 = wkI (r + 1) s zs m ∧ ifI (waE (r + 1) s zs m) 0 1 = 0) := by
  have hu : usB r s zs ((m : Int) + 1) = true := by
    unfold usB at h0 ⊢
    rw [Bool.and_eq_true] at h0 ⊢
    exact ⟨h0.1, inB_true (by omega) (by omega)⟩
  have e : ((m : Int) + 1).toNat = m + 1 := by omega
  have g := grow_one hu
  rw [e] at g
  exact ⟨by simpa using grow_one h0, by rw [e]; exact g, by simpa using grow_one h1, by simpa using grow_one h2, by simpa using grow_one h3⟩
theorem grow_facts {r s : Int} {zs : List Int} {c : Int} {k : Nat} {z : Int} (h : usB r s zs c = true) (hk : k < zs.length) (hz : zs.getD k 0 = z) (m : Nat) :
    0 ≤ wkI r s zs m ∧ wkI r s zs m ≤ 13000 ∧ wkI r s zs m ≤ wkI r s zs (m + 1) ∧ wkI r s zs m ≤ wkI r (s + 1) zs m ∧ wkI r (s + 1) zs m ≤ wkI r s zs m + 1 ∧
    wkI r s zs m ≤ wkI r s (zs.set k (z + 1)) m ∧ wkI r s (zs.set k (z + 1)) m ≤ wkI r s zs m + 1 ∧ wkI (r + 1) s zs m ≤ wkI r s zs m ∧ wkI r s zs m - 1 ≤ wkI (r + 1) s zs m := by
  have hn : nightB r s zs = true := by unfold usB at h; rw [Bool.and_eq_true] at h; exact h.1
  obtain ⟨p1, p2, ⟨p3, p4⟩, p5, p6⟩ := nightB_parts hn
  have h0 : ∀ z ∈ zs, 0 ≤ z := fun z hz => (p2 z hz).1
  have hz0 : 0 ≤ z := h0 z (by rw [← hz]; simp [List.getD, hk])
  have t1 := topS_mono h0 (show m ≤ m + 1 by omega)
  have t0 := topS_le p2 p1 m
  have tn := topS_nonneg p2 m
  have hl := topS_less (zs := zs.set k (z + 1)) (set_nonneg h0 k (by omega)) (c := k) (by rw [List.length_set]; exact hk) (x := z) hz0 (by rw [getD_set k hk, if_pos rfl]; omega) m
  rw [set_back hz hk, getD_set k hk, if_pos rfl] at hl
  unfold wkI
  omega

set_option maxRecDepth 100000 in
set_option maxHeartbeats 12800000 in
theorem wgrow_walk (n0 n1 : Int) (v : Value) (zs : List Int) (c q : Int) (_ : (Lit.int .i64 n0).wf = true) (_ : (Lit.int .i64 n1).wf = true) (_ : ∀ z ∈ zs, -9223372036854775808 ≤ z ∧ z ≤ 9223372036854775807) (_ : (Lit.int .i64 c).wf = true) (wq : (Lit.int .u8 q).wf = true) (w : World) (hv : SlV w v zs) :
    Calls Try.prog 4 #[.agg #[.int .i64 n0, .int .i64 n1, v], .int .i64 c, .int .u8 q] w fun e w' => e = .returned (.bool true) ∧ Below w.heap.size w w' := by
  obtain ⟨A0, cap, rfl, hcap1, hcap2, K⟩ := hv.c
  unfold maxLen at hcap2
  have hq : 0 ≤ q ∧ q ≤ 255 := by simpa [Lit.wf, IntKind.min, IntKind.max, IntKind.signed, IntKind.bits] using wq
  obtain ⟨g1, g2⟩ := hq
  obtain ⟨n, hn⟩ : ∃ n, zs.length = n := ⟨_, rfl⟩
  rw [hn] at K hcap1 ⊢
  have HLZ := Lib.hid hn
  clear hv wq hn
  cases hu : usB n0 n1 zs c with
  | false =>
    have HUS := Lib.hid hu
    clear hu
    go_enter Try.func4, Try.ntmps4
    go_wp2_with fail
    refine (w_head_any _).mono ?_
    rintro e w1 ⟨rfl, hb1⟩
    have R_n_1 : Row w1 (w.heap.size) [.int .i64 n0, .int .i64 n1, .slice A0 n cap] := by (repeat' (first | (with_reducible assumption) | (with_reducible refine Row.new' _ _ _ (by first | rfl | (simp; done) | omega)) | (with_reducible refine Row.alloc ?_ _) | (with_reducible refine Row.drew ?_) | (with_reducible refine Row.drewN ?_ _) | (with_reducible refine Row.step ?_ (by with_reducible assumption)) | (with_reducible refine Row.set2' ?_ _ _; first | exact ⟨_, _, by with_reducible assumption⟩ | exact ⟨_, _, Row.alloc (by with_reducible assumption) _⟩ | exact ⟨_, _, Row.alloc (Row.alloc (by with_reducible assumption) _) _⟩) | (with_reducible refine Row.other ?_ (by first | omega | (simp; done) | (simp; omega)) _)))
    have c_n_0_1 := R_n_1.cell 0 rfl
    have c_n_1_1 := R_n_1.cell 1 rfl
    have c_n_2_1 := R_n_1.cell 2 rfl
    have l_n_1 := R_n_1.lt
    replace K := K.step (show Below w.heap.size w w1 by (repeat' (first | (with_reducible exact Below.refl _ _) | (with_reducible assumption) | (with_reducible exact Bw.out (by with_reducible assumption)) | (with_reducible refine bw_alloc ?_ _) | (with_reducible refine bw_step ?_ (by with_reducible assumption)) | (with_reducible refine Below.alloc ?_ ?_ _) | (with_reducible refine Below.drew ?_) | (with_reducible refine below_drewN ?_ _) | (with_reducible refine Below.setCell ?_ ?_ _) | (with_reducible refine below_step ?_ (by with_reducible assumption) ?_) | (with_reducible exact Nat.le_refl _) | omega | (simp; omega) | (simp; done))))
    have HB1 : Below w.heap.size w w1 := by (repeat' (first | (with_reducible exact Below.refl _ _) | (with_reducible assumption) | (with_reducible exact Bw.out (by with_reducible assumption)) | (with_reducible refine bw_alloc ?_ _) | (with_reducible refine bw_step ?_ (by with_reducible assumption)) | (with_reducible refine Below.alloc ?_ ?_ _) | (with_reducible refine Below.drew ?_) | (with_reducible refine below_drewN ?_ _) | (with_reducible refine Below.setCell ?_ ?_ _) | (with_reducible refine below_step ?_ (by with_reducible assumption) ?_) | (with_reducible exact Nat.le_refl _) | omega | (simp; omega) | (simp; done)))
    go_wp2_with fail
    refine (usable_any n0 n1 c _ _ _ zs _ (K.step (by (repeat' (first | (with_reducible exact Below.refl _ _) | (with_reducible assumption) | (with_reducible exact Bw.out (by with_reducible assumption)) | (with_reducible refine bw_alloc ?_ _) | (with_reducible refine bw_step ?_ (by with_reducible assumption)) | (with_reducible refine Below.alloc ?_ ?_ _) | (with_reducible refine Below.drew ?_) | (with_reducible refine below_drewN ?_ _) | (with_reducible refine Below.setCell ?_ ?_ _) | (with_reducible refine below_step ?_ (by with_reducible assumption) ?_) | (with_reducible exact Nat.le_refl _) | omega | (simp; omega) | (simp; done))))) (by omega) false HUS.out).mono ?_
    rintro e w2 ⟨rfl, hb2⟩
    have R_n_2 : Row w2 (w.heap.size) [.int .i64 n0, .int .i64 n1, .slice A0 n cap] := by (repeat' (first | (with_reducible assumption) | (with_reducible refine Row.new' _ _ _ (by first | rfl | (simp; done) | omega)) | (with_reducible refine Row.alloc ?_ _) | (with_reducible refine Row.drew ?_) | (with_reducible refine Row.drewN ?_ _) | (with_reducible refine Row.step ?_ (by with_reducible assumption)) | (with_reducible refine Row.set2' ?_ _ _; first | exact ⟨_, _, by with_reducible assumption⟩ | exact ⟨_, _, Row.alloc (by with_reducible assumption) _⟩ | exact ⟨_, _, Row.alloc (Row.alloc (by with_reducible assumption) _) _⟩) | (with_reducible refine Row.other ?_ (by first | omega | (simp; done) | (simp; omega)) _)))
    have c_n_0_2 := R_n_2.cell 0 rfl
    have c_n_1_2 := R_n_2.cell 1 rfl
    have c_n_2_2 := R_n_2.cell 2 rfl
    have l_n_2 := R_n_2.lt
    replace K := K.step (show Below w1.heap.size w1 w2 by (repeat' (first | (with_reducible exact Below.refl _ _) | (with_reducible assumption) | (with_reducible exact Bw.out (by with_reducible assumption)) | (with_reducible refine bw_alloc ?_ _) | (with_reducible refine bw_step ?_ (by with_reducible assumption)) | (with_reducible refine Below.alloc ?_ ?_ _) | (with_reducible refine Below.drew ?_) | (with_reducible refine below_drewN ?_ _) | (with_reducible refine Below.setCell ?_ ?_ _) | (with_reducible refine below_step ?_ (by with_reducible assumption) ?_) | (with_reducible exact Nat.le_refl _) | omega | (simp; omega) | (simp; done))))
    have HB2 : Below w.heap.size w w2 := by (repeat' (first | (with_reducible exact Below.refl _ _) | (with_reducible assumption) | (with_reducible exact Bw.out (by with_reducible assumption)) | (with_reducible refine bw_alloc ?_ _) | (with_reducible refine bw_step ?_ (by with_reducible assumption)) | (with_reducible refine Below.alloc ?_ ?_ _) | (with_reducible refine Below.drew ?_) | (with_reducible refine below_drewN ?_ _) | (with_reducible refine Below.setCell ?_ ?_ _) | (with_reducible refine below_step ?_ (by with_reducible assumption) ?_) | (with_reducible exact Nat.le_refl _) | omega | (simp; omega) | (simp; done)))
    clear R_n_1 c_n_0_1 c_n_1_1 c_n_2_1 hb1 HB1
    go_wp2_with fail
    go_ret
    refine ⟨(by first | rfl | exact ret_bool (by first | rfl | (simp; done) | (simp; omega))), ?_⟩
    (repeat' (first | (with_reducible exact Below.refl _ _) | (with_reducible assumption) | (with_reducible exact Bw.out (by with_reducible assumption)) | (with_reducible refine bw_alloc ?_ _) | (with_reducible refine bw_step ?_ (by with_reducible assumption)) | (with_reducible refine Below.alloc ?_ ?_ _) | (with_reducible refine Below.drew ?_) | (with_reducible refine below_drewN ?_ _) | (with_reducible refine Below.setCell ?_ ?_ _) | (with_reducible refine below_step ?_ (by with_reducible assumption) ?_) | (with_reducible exact Nat.le_refl _) | omega | (simp; omega) | (simp; done)))
  | true =>
    have HUS := Lib.hid hu
    have hu2 := hu
    unfold usB at hu2
    rw [Bool.and_eq_true] at hu2
    obtain ⟨hnb, hcb⟩ := hu2
    obtain ⟨p1, p2, ⟨p3, p4⟩, p5, p6⟩ := nightB_parts hnb
    obtain ⟨c0, c1⟩ := inB_iff.1 hcb
    rw [HLZ.out] at p1
    have K0 := Lib.hid K
    clear hu hnb hcb
    rcases Nat.eq_zero_or_pos n with hz0 | hn0
    · have hnz : ((n : Int) == 0) = true := by simp; omega
      have hnz2 : (n == 0) = true := by simp; omega
      clear hz0 p2
      go_enter Try.func4, Try.ntmps4
      go_wp2_with fail
      refine (w_head_any _).mono ?_
      rintro e w1 ⟨rfl, hb1⟩
      have R_n_1 : Row w1 (w.heap.size) [.int .i64 n0, .int .i64 n1, .slice A0 n cap] := by (repeat' (first | (with_reducible assumption) | (with_reducible refine Row.new' _ _ _ (by first | rfl | (simp; done) | omega)) | (with_reducible refine Row.alloc ?_ _) | (with_reducible refine Row.drew ?_) | (with_reducible refine Row.drewN ?_ _) | (with_reducible refine Row.step ?_ (by with_reducible assumption)) | (with_reducible refine Row.set2' ?_ _ _; first | exact ⟨_, _, by with_reducible assumption⟩ | exact ⟨_, _, Row.alloc (by with_reducible assumption) _⟩ | exact ⟨_, _, Row.alloc (Row.alloc (by with_reducible assumption) _) _⟩) | (with_reducible refine Row.other ?_ (by first | omega | (simp; done) | (simp; omega)) _)))
      have c_n_0_1 := R_n_1.cell 0 rfl
      have c_n_1_1 := R_n_1.cell 1 rfl
      have c_n_2_1 := R_n_1.cell 2 rfl
      have l_n_1 := R_n_1.lt
      replace K := K.step (show Below w.heap.size w w1 by (repeat' (first | (with_reducible exact Below.refl _ _) | (with_reducible assumption) | (with_reducible exact Bw.out (by with_reducible assumption)) | (with_reducible refine bw_alloc ?_ _) | (with_reducible refine bw_step ?_ (by with_reducible assumption)) | (with_reducible refine Below.alloc ?_ ?_ _) | (with_reducible refine Below.drew ?_) | (with_reducible refine below_drewN ?_ _) | (with_reducible refine Below.setCell ?_ ?_ _) | (with_reducible refine below_step ?_ (by with_reducible assumption) ?_) | (with_reducible exact Nat.le_refl _) | omega | (simp; omega) | (simp; done))))
      have HB1 : Below w.heap.size w w1 := by (repeat' (first | (with_reducible exact Below.refl _ _) | (with_reducible assumption) | (with_reducible exact Bw.out (by with_reducible assumption)) | (with_reducible refine bw_alloc ?_ _) | (with_reducible refine bw_step ?_ (by with_reducible assumption)) | (with_reducible refine Below.alloc ?_ ?_ _) | (with_reducible refine Below.drew ?_) | (with_reducible refine below_drewN ?_ _) | (with_reducible refine Below.setCell ?_ ?_ _) | (with_reducible refine below_step ?_ (by with_reducible assumption) ?_) | (with_reducible exact Nat.le_refl _) | omega | (simp; omega) | (simp; done)))
      go_wp2_with fail
      refine (usable_any n0 n1 c _ _ _ zs _ (K.step (by (repeat' (first | (with_reducible exact Below.refl _ _) | (with_reducible assumption) | (with_reducible exact Bw.out (by with_reducible assumption)) | (with_reducible refine bw_alloc ?_ _) | (with_reducible refine bw_step ?_ (by with_reducible assumption)) | (with_reducible refine Below.alloc ?_ ?_ _) | (with_reducible refine Below.drew ?_) | (with_reducible refine below_drewN ?_ _) | (with_reducible refine Below.setCell ?_ ?_ _) | (with_reducible refine below_step ?_ (by with_reducible assumption) ?_) | (with_reducible exact Nat.le_refl _) | omega | (simp; omega) | (simp; done))))) (by omega) true HUS.out).mono ?_
      rintro e w2 ⟨rfl, hb2⟩
      have R_n_2 : Row w2 (w.heap.size) [.int .i64 n0, .int .i64 n1, .slice A0 n cap] := by (repeat' (first | (with_reducible assumption) | (with_reducible refine Row.new' _ _ _ (by first | rfl | (simp; done) | omega)) | (with_reducible refine Row.alloc ?_ _) | (with_reducible refine Row.drew ?_) | (with_reducible refine Row.drewN ?_ _) | (with_reducible refine Row.step ?_ (by with_reducible assumption)) | (with_reducible refine Row.set2' ?_ _ _; first | exact ⟨_, _, by with_reducible assumption⟩ | exact ⟨_, _, Row.alloc (by with_reducible assumption) _⟩ | exact ⟨_, _, Row.alloc (Row.alloc (by with_reducible assumption) _) _⟩) | (with_reducible refine Row.other ?_ (by first | omega | (simp; done) | (simp; omega)) _)))
      have c_n_0_2 := R_n_2.cell 0 rfl
      have c_n_1_2 := R_n_2.cell 1 rfl
      have c_n_2_2 := R_n_2.cell 2 rfl
      have l_n_2 := R_n_2.lt
      replace K := K.step (show Below w1.heap.size w1 w2 by (repeat' (first | (with_reducible exact Below.refl _ _) | (with_reducible assumption) | (with_reducible exact Bw.out (by with_reducible assumption)) | (with_reducible refine bw_alloc ?_ _) | (with_reducible refine bw_step ?_ (by with_reducible assumption)) | (with_reducible refine Below.alloc ?_ ?_ _) | (with_reducible refine Below.drew ?_) | (with_reducible refine below_drewN ?_ _) | (with_reducible refine Below.setCell ?_ ?_ _) | (with_reducible refine below_step ?_ (by with_reducible assumption) ?_) | (with_reducible exact Nat.le_refl _) | omega | (simp; omega) | (simp; done))))
      have HB2 : Below w.heap.size w w2 := by (repeat' (first | (with_reducible exact Below.refl _ _) | (with_reducible assumption) | (with_reducible exact Bw.out (by with_reducible assumption)) | (with_reducible refine bw_alloc ?_ _) | (with_reducible refine bw_step ?_ (by with_reducible assumption)) | (with_reducible refine Below.alloc ?_ ?_ _) | (with_reducible refine Below.drew ?_) | (with_reducible refine below_drewN ?_ _) | (with_reducible refine Below.setCell ?_ ?_ _) | (with_reducible refine below_step ?_ (by with_reducible assumption) ?_) | (with_reducible exact Nat.le_refl _) | omega | (simp; omega) | (simp; done)))
      clear R_n_1 c_n_0_1 c_n_1_1 c_n_2_1 hb1 HB1
      go_wp2_with fail
      go_ret
      refine ⟨(by first | rfl | exact ret_bool (by first | rfl | (simp; done) | (simp; omega))), ?_⟩
      (repeat' (first | (with_reducible exact Below.refl _ _) | (with_reducible assumption) | (with_reducible exact Bw.out (by with_reducible assumption)) | (with_reducible refine bw_alloc ?_ _) | (with_reducible refine bw_step ?_ (by with_reducible assumption)) | (with_reducible refine Below.alloc ?_ ?_ _) | (with_reducible refine Below.drew ?_) | (with_reducible refine below_drewN ?_ _) | (with_reducible refine Below.setCell ?_ ?_ _) | (with_reducible refine below_step ?_ (by with_reducible assumption) ?_) | (with_reducible exact Nat.le_refl _) | omega | (simp; omega) | (simp; done)))
    · obtain ⟨m, rfl⟩ := Int.eq_ofNat_of_zero_le c0
      obtain ⟨bb, off, hA, _, _⟩ := (SlC.sl K).at hn0
      subst hA
      have hnz : ((n : Int) == 0) = false := by simp; omega
      have hnz2 : (n == 0) = false := by simp; omega
      obtain ⟨k, hk⟩ := Int.eq_ofNat_of_zero_le (Int.emod_nonneg q (show (n : Int) ≠ 0 by omega))
      have hkp : k < n := by have := Int.emod_lt_of_pos q (show 0 < (n : Int) by omega); omega
      have hkm : q.tmod (n : Int) = (k : Int) := by rw [Int.tmod_eq_emod_of_nonneg g1]; exact hk
      obtain ⟨z, hz⟩ : ∃ z, zs.getD k 0 = z := ⟨_, rfl⟩
      have hzb := p2 z (by rw [← hz]; simp [List.getD, HLZ.out, hkp])
      obtain ⟨z0, z1⟩ := hzb
      have HZ := Lib.hid hz
      have i1 : (0 : Int) ≤ (k : Int) := by omega
      have i2 : (k : Int) < (n : Int) := by omega
      obtain ⟨U1, hU1⟩ : ∃ b, usB n0 (n1 + 1) zs m = b := ⟨_, rfl⟩
      obtain ⟨U2, hU2⟩ : ∃ b, usB n0 n1 (zs.set k (z + 1)) m = b := ⟨_, rfl⟩
      obtain ⟨U3, hU3⟩ : ∃ b, usB (n0 + 1) n1 zs m = b := ⟨_, rfl⟩
      have HU1 := Lib.hid hU1
      have HU2 := Lib.hid hU2
      have HU3 := Lib.hid hU3
      have hm30 : m ≤ 30 := by omega
      clear hk hz p2 hU1 hU2 hU3
      go_enter Try.func4, Try.ntmps4
      go_wp2_with fail
      refine (w_head_any _).mono ?_
      rintro e w1 ⟨rfl, hb1⟩
      have R_n_1 : Row w1 (w.heap.size) [.int .i64 n0, .int .i64 n1, .slice (some ⟨bb, off, none⟩) n cap] := by (repeat' (first | (with_reducible assumption) | (with_reducible refine Row.new' _ _ _ (by first | rfl | (simp; done) | omega)) | (with_reducible refine Row.alloc ?_ _) | (with_reducible refine Row.drew ?_) | (with_reducible refine Row.drewN ?_ _) | (with_reducible refine Row.step ?_ (by with_reducible assumption)) | (with_reducible refine Row.set2' ?_ _ _; first | exact ⟨_, _, by with_reducible assumption⟩ | exact ⟨_, _, Row.alloc (by with_reducible assumption) _⟩ | exact ⟨_, _, Row.alloc (Row.alloc (by with_reducible assumption) _) _⟩) | (with_reducible refine Row.other ?_ (by first | omega | (simp; done) | (simp; omega)) _)))
      have c_n_0_1 := R_n_1.cell 0 rfl
      have c_n_1_1 := R_n_1.cell 1 rfl
      have c_n_2_1 := R_n_1.cell 2 rfl
      have l_n_1 := R_n_1.lt
      replace K := K.step (show Below w.heap.size w w1 by (repeat' (first | (with_reducible exact Below.refl _ _) | (with_reducible assumption) | (with_reducible exact Bw.out (by with_reducible assumption)) | (with_reducible refine bw_alloc ?_ _) | (with_reducible refine bw_step ?_ (by with_reducible assumption)) | (with_reducible refine Below.alloc ?_ ?_ _) | (with_reducible refine Below.drew ?_) | (with_reducible refine below_drewN ?_ _) | (with_reducible refine Below.setCell ?_ ?_ _) | (with_reducible refine below_step ?_ (by with_reducible assumption) ?_) | (with_reducible exact Nat.le_refl _) | omega | (simp; omega) | (simp; done))))
      have HB1 : Below w.heap.size w w1 := by (repeat' (first | (with_reducible exact Below.refl _ _) | (with_reducible assumption) | (with_reducible exact Bw.out (by with_reducible assumption)) | (with_reducible refine bw_alloc ?_ _) | (with_reducible refine bw_step ?_ (by with_reducible assumption)) | (with_reducible refine Below.alloc ?_ ?_ _) | (with_reducible refine Below.drew ?_) | (with_reducible refine below_drewN ?_ _) | (with_reducible refine Below.setCell ?_ ?_ _) | (with_reducible refine below_step ?_ (by with_reducible assumption) ?_) | (with_reducible exact Nat.le_refl _) | omega | (simp; omega) | (simp; done)))
      go_wp2_with fail
      refine (usable_any n0 n1 m _ _ _ zs _ (K.step (by (repeat' (first | (with_reducible exact Below.refl _ _) | (with_reducible assumption) | (with_reducible exact Bw.out (by with_reducible assumption)) | (with_reducible refine bw_alloc ?_ _) | (with_reducible refine bw_step ?_ (by with_reducible assumption)) | (with_reducible refine Below.alloc ?_ ?_ _) | (with_reducible refine Below.drew ?_) | (with_reducible refine below_drewN ?_ _) | (with_reducible refine Below.setCell ?_ ?_ _) | (with_reducible refine below_step ?_ (by with_reducible assumption) ?_) | (with_reducible exact Nat.le_refl _) | omega | (simp; omega) | (simp; done))))) (by omega) true HUS.out).mono ?_
      rintro e w2 ⟨rfl, hb2⟩
      have R_n_2 : Row w2 (w.heap.size) [.int .i64 n0, .int .i64 n1, .slice (some ⟨bb, off, none⟩) n cap] := by (repeat' (first | (with_reducible assumption) | (with_reducible refine Row.new' _ _ _ (by first | rfl | (simp; done) | omega)) | (with_reducible refine Row.alloc ?_ _) | (with_reducible refine Row.drew ?_) | (with_reducible refine Row.drewN ?_ _) | (with_reducible refine Row.step ?_ (by with_reducible assumption)) | (with_reducible refine Row.set2' ?_ _ _; first | exact ⟨_, _, by with_reducible assumption⟩ | exact ⟨_, _, Row.alloc (by with_reducible assumption) _⟩ | exact ⟨_, _, Row.alloc (Row.alloc (by with_reducible assumption) _) _⟩) | (with_reducible refine Row.other ?_ (by first | omega | (simp; done) | (simp; omega)) _)))
      have c_n_0_2 := R_n_2.cell 0 rfl
      have c_n_1_2 := R_n_2.cell 1 rfl
      have c_n_2_2 := R_n_2.cell 2 rfl
      have l_n_2 := R_n_2.lt
      replace K := K.step (show Below w1.heap.size w1 w2 by (repeat' (first | (with_reducible exact Below.refl _ _) | (with_reducible assumption) | (with_reducible exact Bw.out (by with_reducible assumption)) | (with_reducible refine bw_alloc ?_ _) | (with_reducible refine bw_step ?_ (by with_reducible assumption)) | (with_reducible refine Below.alloc ?_ ?_ _) | (with_reducible refine Below.drew ?_) | (with_reducible refine below_drewN ?_ _) | (with_reducible refine Below.setCell ?_ ?_ _) | (with_reducible refine below_step ?_ (by with_reducible assumption) ?_) | (with_reducible exact Nat.le_refl _) | omega | (simp; omega) | (simp; done))))
      have HB2 : Below w.heap.size w w2 := by (repeat' (first | (with_reducible exact Below.refl _ _) | (with_reducible assumption) | (with_reducible exact Bw.out (by with_reducible assumption)) | (with_reducible refine bw_alloc ?_ _) | (with_reducible refine bw_step ?_ (by with_reducible assumption)) | (with_reducible refine Below.alloc ?_ ?_ _) | (with_reducible refine Below.drew ?_) | (with_reducible refine below_drewN ?_ _) | (with_reducible refine Below.setCell ?_ ?_ _) | (with_reducible refine below_step ?_ (by with_reducible assumption) ?_) | (with_reducible exact Nat.le_refl _) | omega | (simp; omega) | (simp; done)))
      clear R_n_1 c_n_0_1 c_n_1_1 c_n_2_1 hb1 HB1
      go_wp2_with fail
      have HKS : Hid (∀ w', Below w2.heap.size w2 w' → w'.cell? ⟨w.heap.size, 0, none⟩ = some (.int .i64 n0) ∧ w'.cell? ⟨w.heap.size, 1, none⟩ = some (.int .i64 n1) ∧ w'.cell? ⟨w.heap.size, 2, none⟩ = some (.slice (some ⟨bb, off, none⟩) n cap)) := fun w' h => ⟨(R_n_2.step h).cell 0 rfl, (R_n_2.step h).cell 1 rfl, (R_n_2.step h).cell 2 rfl⟩
      go_cut [9, 10, 11] (fun s0 s1 s2 wx => ∃ gx gy gz : Nat, s0 = .pointer (some ⟨gx, 0, none⟩) ∧ s1 = .pointer (some ⟨gy, 0, none⟩) ∧ s2 = .pointer (some ⟨gz, 0, none⟩) ∧ gx ≠ gy ∧ gx ≠ gz ∧ gy ≠ gz ∧ w2.heap.size ≤ gx ∧ w2.heap.size ≤ gy ∧ w2.heap.size ≤ gz ∧ Row wx gx [.int .i64 n0, .int .i64 n1, .slice (some ⟨bb, off, none⟩) n cap] ∧ Row wx gy [.int .i64 n0, .int .i64 n1, .slice (some ⟨bb, off, none⟩) n cap] ∧ Row wx gz [.int .i64 n0, .int .i64 n1, .slice (some ⟨bb, off, none⟩) n cap] ∧ Bw w2.heap.size w2 wx)
      case first =>
        refine AnyJ.beginP (fun w' : World => w'.cell? ⟨w.heap.size, 0, none⟩ = some (.int .i64 n0) ∧ w'.cell? ⟨w.heap.size, 1, none⟩ = some (.int .i64 n1) ∧ w'.cell? ⟨w.heap.size, 2, none⟩ = some (.slice (some ⟨bb, off, none⟩) n cap)) (fun _ => true) (by kernel_rfl) (HKS.out _ (by (repeat' (first | (with_reducible exact Below.refl _ _) | (with_reducible assumption) | (with_reducible exact Bw.out (by with_reducible assumption)) | (with_reducible refine bw_alloc ?_ _) | (with_reducible refine bw_step ?_ (by with_reducible assumption)) | (with_reducible refine Below.alloc ?_ ?_ _) | (with_reducible refine Below.drew ?_) | (with_reducible refine below_drewN ?_ _) | (with_reducible refine Below.setCell ?_ ?_ _) | (with_reducible refine below_step ?_ (by with_reducible assumption) ?_) | (with_reducible exact Nat.le_refl _) | omega | (simp; omega) | (simp; done))))) (fun hS => ?_)
        refine AnyJ.takeD (i := 0) (d := some 41) (v := ?_) rfl (by kernel_rfl) (by kernel_rfl) (by kernel_rfl) (by kernel_rfl) (by kernel_rfl) (fun _ _ _ h => h) (Or.inl ⟨by kernel_rfl, ?_⟩) hS ?_
        rotate_left
        · intro w' hS
          obtain ⟨sF0, sF1, sF2⟩ := hS
          go_simp
          try with_reducible rfl
        refine AnyJ.takeD (i := 1) (d := some 42) (v := ?_) rfl (by kernel_rfl) (by kernel_rfl) (by kernel_rfl) (by kernel_rfl) (by kernel_rfl) (fun _ _ _ h => h) (Or.inl ⟨by kernel_rfl, ?_⟩) hS ?_
        rotate_left
        · intro w' hS
          obtain ⟨sF0, sF1, sF2⟩ := hS
          go_simp
          try with_reducible rfl
        refine AnyJ.takeD (i := 2) (d := some 43) (v := ?_) rfl (by kernel_rfl) (by kernel_rfl) (by kernel_rfl) (by kernel_rfl) (by kernel_rfl) (fun _ _ _ h => h) (Or.inl ⟨by kernel_rfl, ?_⟩) hS ?_
        rotate_left
        · intro w' hS
          obtain ⟨sF0, sF1, sF2⟩ := hS
          go_simp
          try with_reducible rfl
        refine AnyJ.three (i := 3) (j := 4) (k := 5) (by kernel_rfl) rfl rfl rfl (fun Kz hKz => ?_) (fun Kz hKz => ?_) (fun Kz hKz => ?_)
        · go_simp
          refine hKz _ _ (fun _ => HKS.out _ (by (repeat' (first | (with_reducible exact Below.refl _ _) | (with_reducible assumption) | (with_reducible exact Bw.out (by with_reducible assumption)) | (with_reducible refine bw_alloc ?_ _) | (with_reducible refine bw_step ?_ (by with_reducible assumption)) | (with_reducible refine Below.alloc ?_ ?_ _) | (with_reducible refine Below.drew ?_) | (with_reducible refine below_drewN ?_ _) | (with_reducible refine Below.setCell ?_ ?_ _) | (with_reducible refine below_step ?_ (by with_reducible assumption) ?_) | (with_reducible exact Nat.le_refl _) | omega | (simp; omega) | (simp; done))))) ?_
          clear hKz Kz
          refine AnyJ.two (i := 4) (j := 5) (by kernel_rfl) rfl rfl (fun Kz hKz => ?_) (fun Kz hKz => ?_)
          · go_simp
            refine hKz _ _ (fun _ => HKS.out _ (by (repeat' (first | (with_reducible exact Below.refl _ _) | (with_reducible assumption) | (with_reducible exact Bw.out (by with_reducible assumption)) | (with_reducible refine bw_alloc ?_ _) | (with_reducible refine bw_step ?_ (by with_reducible assumption)) | (with_reducible refine Below.alloc ?_ ?_ _) | (with_reducible refine Below.drew ?_) | (with_reducible refine below_drewN ?_ _) | (with_reducible refine Below.setCell ?_ ?_ _) | (with_reducible refine below_step ?_ (by with_reducible assumption) ?_) | (with_reducible exact Nat.le_refl _) | omega | (simp; omega) | (simp; done))))) ?_
            clear hKz Kz
            refine AnyJ.one (i := 5) (by kernel_rfl) rfl (fun Kz hKz => ?_)
            go_simp
            refine hKz _ _ (fun _ => HKS.out _ (by (repeat' (first | (with_reducible exact Below.refl _ _) | (with_reducible assumption) | (with_reducible exact Bw.out (by with_reducible assumption)) | (with_reducible refine bw_alloc ?_ _) | (with_reducible refine bw_step ?_ (by with_reducible assumption)) | (with_reducible refine Below.alloc ?_ ?_ _) | (with_reducible refine Below.drew ?_) | (with_reducible refine below_drewN ?_ _) | (with_reducible refine Below.setCell ?_ ?_ _) | (with_reducible refine below_step ?_ (by with_reducible assumption) ?_) | (with_reducible exact Nat.le_refl _) | omega | (simp; omega) | (simp; done))))) ?_
            clear hKz Kz
            generalize hwA : ((((w2).alloc _).alloc _).alloc _).drew = wA
            have RA : Row wA w2.heap.size [.int .i64 0, .int .i64 0, .slice none 0 0] := by rw [← hwA]; exact (((Row.new' w2 [.int .i64 0, .int .i64 0, .slice none 0 0] 30 rfl).alloc _).alloc _)
            have RB : Row wA (w2.heap.size + 1) [.int .i64 0, .int .i64 0, .slice none 0 0] := by rw [← hwA]; exact ((Row.new' _ [.int .i64 0, .int .i64 0, .slice none 0 0] 30 (by simp)).alloc _)
            have RC : Row wA (w2.heap.size + 2) [.int .i64 0, .int .i64 0, .slice none 0 0] := by rw [← hwA]; exact (Row.new' _ [.int .i64 0, .int .i64 0, .slice none 0 0] 30 (by simp))
            have HB0 : Below w2.heap.size w2 wA := by rw [← hwA]; (repeat' (first | (with_reducible exact Below.refl _ _) | (with_reducible assumption) | (with_reducible exact Bw.out (by with_reducible assumption)) | (with_reducible refine bw_alloc ?_ _) | (with_reducible refine bw_step ?_ (by with_reducible assumption)) | (with_reducible refine Below.alloc ?_ ?_ _) | (with_reducible refine Below.drew ?_) | (with_reducible refine below_drewN ?_ _) | (with_reducible refine Below.setCell ?_ ?_ _) | (with_reducible refine below_step ?_ (by with_reducible assumption) ?_) | (with_reducible exact Nat.le_refl _) | omega | (simp; omega) | (simp; done)))
            clear hwA
            have q0 := RA.cell 0 rfl
            have z0 := RA.frozen 0
            have q1 := RA.cell 1 rfl
            have z1 := RA.frozen 1
            have q2 := RA.cell 2 rfl
            have z2 := RA.frozen 2
            have ql := RA.lt
            refine AnyJ.one (i := 6) (by kernel_rfl) rfl (fun Kz hKz => ?_)
            go_simp
            obtain ⟨wB, hwB, N0, ho, hb⟩ := RA.put3 (.int .i64 n0) (.int .i64 n1) (.slice (some ⟨bb, off, none⟩) n cap)
            rw [hwB]
            have RB0 := RB.of_block (ho _ (by simp))
            have RC0 := RC.of_block (ho _ (by simp))
            have HB1 := hb _ _ (by simp) HB0
            refine hKz _ _ (fun _ => HKS.out _ HB1) ?_
            clear hKz Kz hwB q0 q1 q2 z0 z1 z2 ql ho hb
            have q0 := RB0.cell 0 rfl
            have z0 := RB0.frozen 0
            have q1 := RB0.cell 1 rfl
            have z1 := RB0.frozen 1
            have q2 := RB0.cell 2 rfl
            have z2 := RB0.frozen 2
            have ql := RB0.lt
            refine AnyJ.one (i := 7) (by kernel_rfl) rfl (fun Kz hKz => ?_)
            go_simp
            obtain ⟨wC, hwC, N1, ho, hb⟩ := RB0.put3 (.int .i64 n0) (.int .i64 n1) (.slice (some ⟨bb, off, none⟩) n cap)
            rw [hwC]
            have N01 := N0.of_block (ho _ (by simp))
            have RC01 := RC0.of_block (ho _ (by simp))
            have HB2 := hb _ _ (by simp) HB1
            refine hKz _ _ (fun _ => HKS.out _ HB2) ?_
            clear hKz Kz hwC q0 q1 q2 z0 z1 z2 ql ho hb
            have q0 := RC01.cell 0 rfl
            have z0 := RC01.frozen 0
            have q1 := RC01.cell 1 rfl
            have z1 := RC01.frozen 1
            have q2 := RC01.cell 2 rfl
            have z2 := RC01.frozen 2
            have ql := RC01.lt
            refine AnyJ.one (i := 8) (by kernel_rfl) rfl (fun Kz hKz => ?_)
            go_simp
            obtain ⟨wD, hwD, N2, ho, hb⟩ := RC01.put3 (.int .i64 n0) (.int .i64 n1) (.slice (some ⟨bb, off, none⟩) n cap)
            rw [hwD]
            have N012 := N01.of_block (ho _ (by simp))
            have N12 := N1.of_block (ho _ (by simp))
            have HB3 := hb _ _ (by simp) HB2
            refine hKz _ _ (fun _ => HKS.out _ HB3) ?_
            clear hKz Kz hwD q0 q1 q2 z0 z1 z2 ql ho hb
            refine AnyJ.done (by kernel_rfl) ?_ _
            try simp only [Act.put, List.setIfInBounds_toArray, List.set_cons_zero, List.set_cons_succ]
            go_wp2_with fail
            go_meet
            exact ⟨w2.heap.size, (w2.heap.size + 1), (w2.heap.size + 2), rfl, rfl, rfl, by omega, by omega, by omega, by omega, by omega, by omega, N012, N12, N2, HB3⟩
          · go_simp
            refine hKz _ _ (fun _ => HKS.out _ (by (repeat' (first | (with_reducible exact Below.refl _ _) | (with_reducible assumption) | (with_reducible exact Bw.out (by with_reducible assumption)) | (with_reducible refine bw_alloc ?_ _) | (with_reducible refine bw_step ?_ (by with_reducible assumption)) | (with_reducible refine Below.alloc ?_ ?_ _) | (with_reducible refine Below.drew ?_) | (with_reducible refine below_drewN ?_ _) | (with_reducible refine Below.setCell ?_ ?_ _) | (with_reducible refine below_step ?_ (by with_reducible assumption) ?_) | (with_reducible exact Nat.le_refl _) | omega | (simp; omega) | (simp; done))))) ?_
            clear hKz Kz
            refine AnyJ.one (i := 4) (by kernel_rfl) rfl (fun Kz hKz => ?_)
            go_simp
            refine hKz _ _ (fun _ => HKS.out _ (by (repeat' (first | (with_reducible exact Below.refl _ _) | (with_reducible assumption) | (with_reducible exact Bw.out (by with_reducible assumption)) | (with_reducible refine bw_alloc ?_ _) | (with_reducible refine bw_step ?_ (by with_reducible assumption)) | (with_reducible refine Below.alloc ?_ ?_ _) | (with_reducible refine Below.drew ?_) | (with_reducible refine below_drewN ?_ _) | (with_reducible refine Below.setCell ?_ ?_ _) | (with_reducible refine below_step ?_ (by with_reducible assumption) ?_) | (with_reducible exact Nat.le_refl _) | omega | (simp; omega) | (simp; done))))) ?_
            clear hKz Kz
            generalize hwA : ((((w2).alloc _).alloc _).alloc _).drew = wA
            have RA : Row wA w2.heap.size [.int .i64 0, .int .i64 0, .slice none 0 0] := by rw [← hwA]; exact (((Row.new' w2 [.int .i64 0, .int .i64 0, .slice none 0 0] 30 rfl).alloc _).alloc _)
            have RB : Row wA (w2.heap.size + 1) [.int .i64 0, .int .i64 0, .slice none 0 0] := by rw [← hwA]; exact ((Row.new' _ [.int .i64 0, .int .i64 0, .slice none 0 0] 30 (by simp)).alloc _)
            have RC : Row wA (w2.heap.size + 2) [.int .i64 0, .int .i64 0, .slice none 0 0] := by rw [← hwA]; exact (Row.new' _ [.int .i64 0, .int .i64 0, .slice none 0 0] 30 (by simp))
            have HB0 : Below w2.heap.size w2 wA := by rw [← hwA]; (repeat' (first | (with_reducible exact Below.refl _ _) | (with_reducible assumption) | (with_reducible exact Bw.out (by with_reducible assumption)) | (with_reducible refine bw_alloc ?_ _) | (with_reducible refine bw_step ?_ (by with_reducible assumption)) | (with_reducible refine Below.alloc ?_ ?_ _) | (with_reducible refine Below.drew ?_) | (with_reducible refine below_drewN ?_ _) | (with_reducible refine Below.setCell ?_ ?_ _) | (with_reducible refine below_step ?_ (by with_reducible assumption) ?_) | (with_reducible exact Nat.le_refl _) | omega | (simp; omega) | (simp; done)))
            clear hwA
            have q0 := RA.cell 0 rfl
            have z0 := RA.frozen 0
            have q1 := RA.cell 1 rfl
            have z1 := RA.frozen 1
            have q2 := RA.cell 2 rfl
            have z2 := RA.frozen 2
            have ql := RA.lt
            refine AnyJ.one (i := 6) (by kernel_rfl) rfl (fun Kz hKz => ?_)
            go_simp
            obtain ⟨wB, hwB, N0, ho, hb⟩ := RA.put3 (.int .i64 n0) (.int .i64 n1) (.slice (some ⟨bb, off, none⟩) n cap)
            rw [hwB]
            have RB0 := RB.of_block (ho _ (by simp))
            have RC0 := RC.of_block (ho _ (by simp))
            have HB1 := hb _ _ (by simp) HB0
            refine hKz _ _ (fun _ => HKS.out _ HB1) ?_
            clear hKz Kz hwB q0 q1 q2 z0 z1 z2 ql ho hb
            have q0 := RC0.cell 0 rfl
            have z0 := RC0.frozen 0
            have q1 := RC0.cell 1 rfl
            have z1 := RC0.frozen 1
            have q2 := RC0.cell 2 rfl
            have z2 := RC0.frozen 2
            have ql := RC0.lt
            refine AnyJ.one (i := 7) (by kernel_rfl) rfl (fun Kz hKz => ?_)
            go_simp
            obtain ⟨wC, hwC, N1, ho, hb⟩ := RC0.put3 (.int .i64 n0) (.int .i64 n1) (.slice (some ⟨bb, off, none⟩) n cap)
            rw [hwC]
            have N01 := N0.of_block (ho _ (by simp))
            have RB01 := RB0.of_block (ho _ (by simp))
            have HB2 := hb _ _ (by simp) HB1
            refine hKz _ _ (fun _ => HKS.out _ HB2) ?_
            clear hKz Kz hwC q0 q1 q2 z0 z1 z2 ql ho hb
            have q0 := RB01.cell 0 rfl
            have z0 := RB01.frozen 0
            have q1 := RB01.cell 1 rfl
            have z1 := RB01.frozen 1
            have q2 := RB01.cell 2 rfl
            have z2 := RB01.frozen 2
            have ql := RB01.lt
            refine AnyJ.one (i := 8) (by kernel_rfl) rfl (fun Kz hKz => ?_)
            go_simp
            obtain ⟨wD, hwD, N2, ho, hb⟩ := RB01.put3 (.int .i64 n0) (.int .i64 n1) (.slice (some ⟨bb, off, none⟩) n cap)
            rw [hwD]
            have N012 := N01.of_block (ho _ (by simp))
            have N12 := N1.of_block (ho _ (by simp))
            have HB3 := hb _ _ (by simp) HB2
            refine hKz _ _ (fun _ => HKS.out _ HB3) ?_
            clear hKz Kz hwD q0 q1 q2 z0 z1 z2 ql ho hb
            refine AnyJ.done (by kernel_rfl) ?_ _
            try simp only [Act.put, List.setIfInBounds_toArray, List.set_cons_zero, List.set_cons_succ]
            go_wp2_with fail
            go_meet
            exact ⟨w2.heap.size, (w2.heap.size + 2), (w2.heap.size + 1), rfl, rfl, rfl, by omega, by omega, by omega, by omega, by omega, by omega, N012, N12, N2, HB3⟩
        · go_simp
          refine hKz _ _ (fun _ => HKS.out _ (by (repeat' (first | (with_reducible exact Below.refl _ _) | (with_reducible assumption) | (with_reducible exact Bw.out (by with_reducible assumption)) | (with_reducible refine bw_alloc ?_ _) | (with_reducible refine bw_step ?_ (by with_reducible assumption)) | (with_reducible refine Below.alloc ?_ ?_ _) | (with_reducible refine Below.drew ?_) | (with_reducible refine below_drewN ?_ _) | (with_reducible refine Below.setCell ?_ ?_ _) | (with_reducible refine below_step ?_ (by with_reducible assumption) ?_) | (with_reducible exact Nat.le_refl _) | omega | (simp; omega) | (simp; done))))) ?_
          clear hKz Kz
          refine AnyJ.two (i := 3) (j := 5) (by kernel_rfl) rfl rfl (fun Kz hKz => ?_) (fun Kz hKz => ?_)
          · go_simp
            refine hKz _ _ (fun _ => HKS.out _ (by (repeat' (first | (with_reducible exact Below.refl _ _) | (with_reducible assumption) | (with_reducible exact Bw.out (by with_reducible assumption)) | (with_reducible refine bw_alloc ?_ _) | (with_reducible refine bw_step ?_ (by with_reducible assumption)) | (with_reducible refine Below.alloc ?_ ?_ _) | (with_reducible refine Below.drew ?_) | (with_reducible refine below_drewN ?_ _) | (with_reducible refine Below.setCell ?_ ?_ _) | (with_reducible refine below_step ?_ (by with_reducible assumption) ?_) | (with_reducible exact Nat.le_refl _) | omega | (simp; omega) | (simp; done))))) ?_
            clear hKz Kz
            refine AnyJ.one (i := 5) (by kernel_rfl) rfl (fun Kz hKz => ?_)
            go_simp
            refine hKz _ _ (fun _ => HKS.out _ (by (repeat' (first | (with_reducible exact Below.refl _ _) | (with_reducible assumption) | (with_reducible exact Bw.out (by with_reducible assumption)) | (with_reducible refine bw_alloc ?_ _) | (with_reducible refine bw_step ?_ (by with_reducible assumption)) | (with_reducible refine Below.alloc ?_ ?_ _) | (with_reducible refine Below.drew ?_) | (with_reducible refine below_drewN ?_ _) | (with_reducible refine Below.setCell ?_ ?_ _) | (with_reducible refine below_step ?_ (by with_reducible assumption) ?_) | (with_reducible exact Nat.le_refl _) | omega | (simp; omega) | (simp; done))))) ?_
            clear hKz Kz
            generalize hwA : ((((w2).alloc _).alloc _).alloc _).drew = wA
            have RA : Row wA w2.heap.size [.int .i64 0, .int .i64 0, .slice none 0 0] := by rw [← hwA]; exact (((Row.new' w2 [.int .i64 0, .int .i64 0, .slice none 0 0] 30 rfl).alloc _).alloc _)
            have RB : Row wA (w2.heap.size + 1) [.int .i64 0, .int .i64 0, .slice none 0 0] := by rw [← hwA]; exact ((Row.new' _ [.int .i64 0, .int .i64 0, .slice none 0 0] 30 (by simp)).alloc _)
            have RC : Row wA (w2.heap.size + 2) [.int .i64 0, .int .i64 0, .slice none 0 0] := by rw [← hwA]; exact (Row.new' _ [.int .i64 0, .int .i64 0, .slice none 0 0] 30 (by simp))
            have HB0 : Below w2.heap.size w2 wA := by rw [← hwA]; (repeat' (first | (with_reducible exact Below.refl _ _) | (with_reducible assumption) | (with_reducible exact Bw.out (by with_reducible assumption)) | (with_reducible refine bw_alloc ?_ _) | (with_reducible refine bw_step ?_ (by with_reducible assumption)) | (with_reducible refine Below.alloc ?_ ?_ _) | (with_reducible refine Below.drew ?_) | (with_reducible refine below_drewN ?_ _) | (with_reducible refine Below.setCell ?_ ?_ _) | (with_reducible refine below_step ?_ (by with_reducible assumption) ?_) | (with_reducible exact Nat.le_refl _) | omega | (simp; omega) | (simp; done)))
            clear hwA
            have q0 := RB.cell 0 rfl
            have z0 := RB.frozen 0
            have q1 := RB.cell 1 rfl
            have z1 := RB.frozen 1
            have q2 := RB.cell 2 rfl
            have z2 := RB.frozen 2
            have ql := RB.lt
            refine AnyJ.one (i := 6) (by kernel_rfl) rfl (fun Kz hKz => ?_)
            go_simp
            obtain ⟨wB, hwB, N0, ho, hb⟩ := RB.put3 (.int .i64 n0) (.int .i64 n1) (.slice (some ⟨bb, off, none⟩) n cap)
            rw [hwB]
            have RA0 := RA.of_block (ho _ (by simp))
            have RC0 := RC.of_block (ho _ (by simp))
            have HB1 := hb _ _ (by simp) HB0
            refine hKz _ _ (fun _ => HKS.out _ HB1) ?_
            clear hKz Kz hwB q0 q1 q2 z0 z1 z2 ql ho hb
            have q0 := RA0.cell 0 rfl
            have z0 := RA0.frozen 0
            have q1 := RA0.cell 1 rfl
            have z1 := RA0.frozen 1
            have q2 := RA0.cell 2 rfl
            have z2 := RA0.frozen 2
            have ql := RA0.lt
            refine AnyJ.one (i := 7) (by kernel_rfl) rfl (fun Kz hKz => ?_)
            go_simp
            obtain ⟨wC, hwC, N1, ho, hb⟩ := RA0.put3 (.int .i64 n0) (.int .i64 n1) (.slice (some ⟨bb, off, none⟩) n cap)
            rw [hwC]
            have N01 := N0.of_block (ho _ (by simp))
            have RC01 := RC0.of_block (ho _ (by simp))
            have HB2 := hb _ _ (by simp) HB1
            refine hKz _ _ (fun _ => HKS.out _ HB2) ?_
            clear hKz Kz hwC q0 q1 q2 z0 z1 z2 ql ho hb
            have q0 := RC01.cell 0 rfl
            have z0 := RC01.frozen 0
            have q1 := RC01.cell 1 rfl
            have z1 := RC01.frozen 1
            have q2 := RC01.cell 2 rfl
            have z2 := RC01.frozen 2
            have ql := RC01.lt
            refine AnyJ.one (i := 8) (by kernel_rfl) rfl (fun Kz hKz => ?_)
            go_simp
            obtain ⟨wD, hwD, N2, ho, hb⟩ := RC01.put3 (.int .i64 n0) (.int .i64 n1) (.slice (some ⟨bb, off, none⟩) n cap)
            rw [hwD]
            have N12 := N1.of_block (ho _ (by simp))
            have N012 := N01.of_block (ho _ (by simp))
            have HB3 := hb _ _ (by simp) HB2
            refine hKz _ _ (fun _ => HKS.out _ HB3) ?_
            clear hKz Kz hwD q0 q1 q2 z0 z1 z2 ql ho hb
            refine AnyJ.done (by kernel_rfl) ?_ _
            try simp only [Act.put, List.setIfInBounds_toArray, List.set_cons_zero, List.set_cons_succ]
            go_wp2_with fail
            go_meet
            exact ⟨(w2.heap.size + 1), w2.heap.size, (w2.heap.size + 2), rfl, rfl, rfl, by omega, by omega, by omega, by omega, by omega, by omega, N012, N12, N2, HB3⟩
          · go_simp
            refine hKz _ _ (fun _ => HKS.out _ (by (repeat' (first | (with_reducible exact Below.refl _ _) | (with_reducible assumption) | (with_reducible exact Bw.out (by with_reducible assumption)) | (with_reducible refine bw_alloc ?_ _) | (with_reducible refine bw_step ?_ (by with_reducible assumption)) | (with_reducible refine Below.alloc ?_ ?_ _) | (with_reducible refine Below.drew ?_) | (with_reducible refine below_drewN ?_ _) | (with_reducible refine Below.setCell ?_ ?_ _) | (with_reducible refine below_step ?_ (by with_reducible assumption) ?_) | (with_reducible exact Nat.le_refl _) | omega | (simp; omega) | (simp; done))))) ?_
            clear hKz Kz
            refine AnyJ.one (i := 3) (by kernel_rfl) rfl (fun Kz hKz => ?_)
            go_simp
            refine hKz _ _ (fun _ => HKS.out _ (by (repeat' (first | (with_reducible exact Below.refl _ _) | (with_reducible assumption) | (with_reducible exact Bw.out (by with_reducible assumption)) | (with_reducible refine bw_alloc ?_ _) | (with_reducible refine bw_step ?_ (by with_reducible assumption)) | (with_reducible refine Below.alloc ?_ ?_ _) | (with_reducible refine Below.drew ?_) | (with_reducible refine below_drewN ?_ _) | (with_reducible refine Below.setCell ?_ ?_ _) | (with_reducible refine below_step ?_ (by with_reducible assumption) ?_) | (with_reducible exact Nat.le_refl _) | omega | (simp; omega) | (simp; done))))) ?_
            clear hKz Kz
            generalize hwA : ((((w2).alloc _).alloc _).alloc _).drew = wA
            have RA : Row wA w2.heap.size [.int .i64 0, .int .i64 0, .slice none 0 0] := by rw [← hwA]; exact (((Row.new' w2 [.int .i64 0, .int .i64 0, .slice none 0 0] 30 rfl).alloc _).alloc _)
            have RB : Row wA (w2.heap.size + 1) [.int .i64 0, .int .i64 0, .slice none 0 0] := by rw [← hwA]; exact ((Row.new' _ [.int .i64 0, .int .i64 0, .slice none 0 0] 30 (by simp)).alloc _)
            have RC : Row wA (w2.heap.size + 2) [.int .i64 0, .int .i64 0, .slice none 0 0] := by rw [← hwA]; exact (Row.new' _ [.int .i64 0, .int .i64 0, .slice none 0 0] 30 (by simp))
            have HB0 : Below w2.heap.size w2 wA := by rw [← hwA]; (repeat' (first | (with_reducible exact Below.refl _ _) | (with_reducible assumption) | (with_reducible exact Bw.out (by with_reducible assumption)) | (with_reducible refine bw_alloc ?_ _) | (with_reducible refine bw_step ?_ (by with_reducible assumption)) | (with_reducible refine Below.alloc ?_ ?_ _) | (with_reducible refine Below.drew ?_) | (with_reducible refine below_drewN ?_ _) | (with_reducible refine Below.setCell ?_ ?_ _) | (with_reducible refine below_step ?_ (by with_reducible assumption) ?_) | (with_reducible exact Nat.le_refl _) | omega | (simp; omega) | (simp; done)))
            clear hwA
            have q0 := RC.cell 0 rfl
            have z0 := RC.frozen 0
            have q1 := RC.cell 1 rfl
            have z1 := RC.frozen 1
            have q2 := RC.cell 2 rfl
            have z2 := RC.frozen 2
            have ql := RC.lt
            refine AnyJ.one (i := 6) (by kernel_rfl) rfl (fun Kz hKz => ?_)
            go_simp
            obtain ⟨wB, hwB, N0, ho, hb⟩ := RC.put3 (.int .i64 n0) (.int .i64 n1) (.slice (some ⟨bb, off, none⟩) n cap)
            rw [hwB]
            have RA0 := RA.of_block (ho _ (by simp))
            have RB0 := RB.of_block (ho _ (by simp))
            have HB1 := hb _ _ (by simp) HB0
            refine hKz _ _ (fun _ => HKS.out _ HB1) ?_
            clear hKz Kz hwB q0 q1 q2 z0 z1 z2 ql ho hb
            have q0 := RA0.cell 0 rfl
            have z0 := RA0.frozen 0
            have q1 := RA0.cell 1 rfl
            have z1 := RA0.frozen 1
            have q2 := RA0.cell 2 rfl
            have z2 := RA0.frozen 2
            have ql := RA0.lt
            refine AnyJ.one (i := 7) (by kernel_rfl) rfl (fun Kz hKz => ?_)
            go_simp
            obtain ⟨wC, hwC, N1, ho, hb⟩ := RA0.put3 (.int .i64 n0) (.int .i64 n1) (.slice (some ⟨bb, off, none⟩) n cap)
            rw [hwC]
            have RB01 := RB0.of_block (ho _ (by simp))
            have N01 := N0.of_block (ho _ (by simp))
            have HB2 := hb _ _ (by simp) HB1
            refine hKz _ _ (fun _ => HKS.out _ HB2) ?_
            clear hKz Kz hwC q0 q1 q2 z0 z1 z2 ql ho hb
            have q0 := RB01.cell 0 rfl
            have z0 := RB01.frozen 0
            have q1 := RB01.cell 1 rfl
            have z1 := RB01.frozen 1
            have q2 := RB01.cell 2 rfl
            have z2 := RB01.frozen 2
            have ql := RB01.lt
            refine AnyJ.one (i := 8) (by kernel_rfl) rfl (fun Kz hKz => ?_)
            go_simp
            obtain ⟨wD, hwD, N2, ho, hb⟩ := RB01.put3 (.int .i64 n0) (.int .i64 n1) (.slice (some ⟨bb, off, none⟩) n cap)
            rw [hwD]
            have N12 := N1.of_block (ho _ (by simp))
            have N012 := N01.of_block (ho _ (by simp))
            have HB3 := hb _ _ (by simp) HB2
            refine hKz _ _ (fun _ => HKS.out _ HB3) ?_
            clear hKz Kz hwD q0 q1 q2 z0 z1 z2 ql ho hb
            refine AnyJ.done (by kernel_rfl) ?_ _
            try simp only [Act.put, List.setIfInBounds_toArray, List.set_cons_zero, List.set_cons_succ]
            go_wp2_with fail
            go_meet
            exact ⟨(w2.heap.size + 2), w2.heap.size, (w2.heap.size + 1), rfl, rfl, rfl, by omega, by omega, by omega, by omega, by omega, by omega, N012, N12, N2, HB3⟩
        · go_simp
          refine hKz _ _ (fun _ => HKS.out _ (by (repeat' (first | (with_reducible exact Below.refl _ _) | (with_reducible assumption) | (with_reducible exact Bw.out (by with_reducible assumption)) | (with_reducible refine bw_alloc ?_ _) | (with_reducible refine bw_step ?_ (by with_reducible assumption)) | (with_reducible refine Below.alloc ?_ ?_ _) | (with_reducible refine Below.drew ?_) | (with_reducible refine below_drewN ?_ _) | (with_reducible refine Below.setCell ?_ ?_ _) | (with_reducible refine below_step ?_ (by with_reducible assumption) ?_) | (with_reducible exact Nat.le_refl _) | omega | (simp; omega) | (simp; done))))) ?_
          clear hKz Kz
          refine AnyJ.two (i := 3) (j := 4) (by kernel_rfl) rfl rfl (fun Kz hKz => ?_) (fun Kz hKz => ?_)
          · go_simp
            refine hKz _ _ (fun _ => HKS.out _ (by (repeat' (first | (with_reducible exact Below.refl _ _) | (with_reducible assumption) | (with_reducible exact Bw.out (by with_reducible assumption)) | (with_reducible refine bw_alloc ?_ _) | (with_reducible refine bw_step ?_ (by with_reducible assumption)) | (with_reducible refine Below.alloc ?_ ?_ _) | (with_reducible refine Below.drew ?_) | (with_reducible refine below_drewN ?_ _) | (with_reducible refine Below.setCell ?_ ?_ _) | (with_reducible refine below_step ?_ (by with_reducible assumption) ?_) | (with_reducible exact Nat.le_refl _) | omega | (simp; omega) | (simp; done))))) ?_
            clear hKz Kz
            refine AnyJ.one (i := 4) (by kernel_rfl) rfl (fun Kz hKz => ?_)
            go_simp
            refine hKz _ _ (fun _ => HKS.out _ (by (repeat' (first | (with_reducible exact Below.refl _ _) | (with_reducible assumption) | (with_reducible exact Bw.out (by with_reducible assumption)) | (with_reducible refine bw_alloc ?_ _) | (with_reducible refine bw_step ?_ (by with_reducible assumption)) | (with_reducible refine Below.alloc ?_ ?_ _) | (with_reducible refine Below.drew ?_) | (with_reducible refine below_drewN ?_ _) | (with_reducible refine Below.setCell ?_ ?_ _) | (with_reducible refine below_step ?_ (by with_reducible assumption) ?_) | (with_reducible exact Nat.le_refl _) | omega | (simp; omega) | (simp; done))))) ?_
            clear hKz Kz
            generalize hwA : ((((w2).alloc _).alloc _).alloc _).drew = wA
            have RA : Row wA w2.heap.size [.int .i64 0, .int .i64 0, .slice none 0 0] := by rw [← hwA]; exact (((Row.new' w2 [.int .i64 0, .int .i64 0, .slice none 0 0] 30 rfl).alloc _).alloc _)
            have RB : Row wA (w2.heap.size + 1) [.int .i64 0, .int .i64 0, .slice none 0 0] := by rw [← hwA]; exact ((Row.new' _ [.int .i64 0, .int .i64 0, .slice none 0 0] 30 (by simp)).alloc _)
            have RC : Row wA (w2.heap.size + 2) [.int .i64 0, .int .i64 0, .slice none 0 0] := by rw [← hwA]; exact (Row.new' _ [.int .i64 0, .int .i64 0, .slice none 0 0] 30 (by simp))
            have HB0 : Below w2.heap.size w2 wA := by rw [← hwA]; (repeat' (first | (with_reducible exact Below.refl _ _) | (with_reducible assumption) | (with_reducible exact Bw.out (by with_reducible assumption)) | (with_reducible refine bw_alloc ?_ _) | (with_reducible refine bw_step ?_ (by with_reducible assumption)) | (with_reducible refine Below.alloc ?_ ?_ _) | (with_reducible refine Below.drew ?_) | (with_reducible refine below_drewN ?_ _) | (with_reducible refine Below.setCell ?_ ?_ _) | (with_reducible refine below_step ?_ (by with_reducible assumption) ?_) | (with_reducible exact Nat.le_refl _) | omega | (simp; omega) | (simp; done)))
            clear hwA
            have q0 := RB.cell 0 rfl
            have z0 := RB.frozen 0
            have q1 := RB.cell 1 rfl
            have z1 := RB.frozen 1
            have q2 := RB.cell 2 rfl
            have z2 := RB.frozen 2
            have ql := RB.lt
            refine AnyJ.one (i := 6) (by kernel_rfl) rfl (fun Kz hKz => ?_)
            go_simp
            obtain ⟨wB, hwB, N0, ho, hb⟩ := RB.put3 (.int .i64 n0) (.int .i64 n1) (.slice (some ⟨bb, off, none⟩) n cap)
            rw [hwB]
            have RA0 := RA.of_block (ho _ (by simp))
            have RC0 := RC.of_block (ho _ (by simp))
            have HB1 := hb _ _ (by simp) HB0
            refine hKz _ _ (fun _ => HKS.out _ HB1) ?_
            clear hKz Kz hwB q0 q1 q2 z0 z1 z2 ql ho hb
            have q0 := RC0.cell 0 rfl
            have z0 := RC0.frozen 0
            have q1 := RC0.cell 1 rfl
            have z1 := RC0.frozen 1
            have q2 := RC0.cell 2 rfl
            have z2 := RC0.frozen 2
            have ql := RC0.lt
            refine AnyJ.one (i := 7) (by kernel_rfl) rfl (fun Kz hKz => ?_)
            go_simp
            obtain ⟨wC, hwC, N1, ho, hb⟩ := RC0.put3 (.int .i64 n0) (.int .i64 n1) (.slice (some ⟨bb, off, none⟩) n cap)
            rw [hwC]
            have RA01 := RA0.of_block (ho _ (by simp))
            have N01 := N0.of_block (ho _ (by simp))
            have HB2 := hb _ _ (by simp) HB1
            refine hKz _ _ (fun _ => HKS.out _ HB2) ?_
            clear hKz Kz hwC q0 q1 q2 z0 z1 z2 ql ho hb
            have q0 := RA01.cell 0 rfl
            have z0 := RA01.frozen 0
            have q1 := RA01.cell 1 rfl
            have z1 := RA01.frozen 1
            have q2 := RA01.cell 2 rfl
            have z2 := RA01.frozen 2
            have ql := RA01.lt
            refine AnyJ.one (i := 8) (by kernel_rfl) rfl (fun Kz hKz => ?_)
            go_simp
            obtain ⟨wD, hwD, N2, ho, hb⟩ := RA01.put3 (.int .i64 n0) (.int .i64 n1) (.slice (some ⟨bb, off, none⟩) n cap)
            rw [hwD]
            have N012 := N01.of_block (ho _ (by simp))
            have N12 := N1.of_block (ho _ (by simp))
            have HB3 := hb _ _ (by simp) HB2
            refine hKz _ _ (fun _ => HKS.out _ HB3) ?_
            clear hKz Kz hwD q0 q1 q2 z0 z1 z2 ql ho hb
            refine AnyJ.done (by kernel_rfl) ?_ _
            try simp only [Act.put, List.setIfInBounds_toArray, List.set_cons_zero, List.set_cons_succ]
            go_wp2_with fail
            go_meet
            exact ⟨(w2.heap.size + 1), (w2.heap.size + 2), w2.heap.size, rfl, rfl, rfl, by omega, by omega, by omega, by omega, by omega, by omega, N012, N12, N2, HB3⟩
          · go_simp
            refine hKz _ _ (fun _ => HKS.out _ (by (repeat' (first | (with_reducible exact Below.refl _ _) | (with_reducible assumption) | (with_reducible exact Bw.out (by with_reducible assumption)) | (with_reducible refine bw_alloc ?_ _) | (with_reducible refine bw_step ?_ (by with_reducible assumption)) | (with_reducible refine Below.alloc ?_ ?_ _) | (with_reducible refine Below.drew ?_) | (with_reducible refine below_drewN ?_ _) | (with_reducible refine Below.setCell ?_ ?_ _) | (with_reducible refine below_step ?_ (by with_reducible assumption) ?_) | (with_reducible exact Nat.le_refl _) | omega | (simp; omega) | (simp; done))))) ?_
            clear hKz Kz
            refine AnyJ.one (i := 3) (by kernel_rfl) rfl (fun Kz hKz => ?_)
            go_simp
            refine hKz _ _ (fun _ => HKS.out _ (by (repeat' (first | (with_reducible exact Below.refl _ _) | (with_reducible assumption) | (with_reducible exact Bw.out (by with_reducible assumption)) | (with_reducible refine bw_alloc ?_ _) | (with_reducible refine bw_step ?_ (by with_reducible assumption)) | (with_reducible refine Below.alloc ?_ ?_ _) | (with_reducible refine Below.drew ?_) | (with_reducible refine below_drewN ?_ _) | (with_reducible refine Below.setCell ?_ ?_ _) | (with_reducible refine below_step ?_ (by with_reducible assumption) ?_) | (with_reducible exact Nat.le_refl _) | omega | (simp; omega) | (simp; done))))) ?_
            clear hKz Kz
            generalize hwA : ((((w2).alloc _).alloc _).alloc _).drew = wA
            have RA : Row wA w2.heap.size [.int .i64 0, .int .i64 0, .slice none 0 0] := by rw [← hwA]; exact (((Row.new' w2 [.int .i64 0, .int .i64 0, .slice none 0 0] 30 rfl).alloc _).alloc _)
            have RB : Row wA (w2.heap.size + 1) [.int .i64 0, .int .i64 0, .slice none 0 0] := by rw [← hwA]; exact ((Row.new' _ [.int .i64 0, .int .i64 0, .slice none 0 0] 30 (by simp)).alloc _)
            have RC : Row wA (w2.heap.size + 2) [.int .i64 0, .int .i64 0, .slice none 0 0] := by rw [← hwA]; exact (Row.new' _ [.int .i64 0, .int .i64 0, .slice none 0 0] 30 (by simp))
            have HB0 : Below w2.heap.size w2 wA := by rw [← hwA]; (repeat' (first | (with_reducible exact Below.refl _ _) | (with_reducible assumption) | (with_reducible exact Bw.out (by with_reducible assumption)) | (with_reducible refine bw_alloc ?_ _) | (with_reducible refine bw_step ?_ (by with_reducible assumption)) | (with_reducible refine Below.alloc ?_ ?_ _) | (with_reducible refine Below.drew ?_) | (with_reducible refine below_drewN ?_ _) | (with_reducible refine Below.setCell ?_ ?_ _) | (with_reducible refine below_step ?_ (by with_reducible assumption) ?_) | (with_reducible exact Nat.le_refl _) | omega | (simp; omega) | (simp; done)))
            clear hwA
            have q0 := RC.cell 0 rfl
            have z0 := RC.frozen 0
            have q1 := RC.cell 1 rfl
            have z1 := RC.frozen 1
            have q2 := RC.cell 2 rfl
            have z2 := RC.frozen 2
            have ql := RC.lt
            refine AnyJ.one (i := 6) (by kernel_rfl) rfl (fun Kz hKz => ?_)
            go_simp
            obtain ⟨wB, hwB, N0, ho, hb⟩ := RC.put3 (.int .i64 n0) (.int .i64 n1) (.slice (some ⟨bb, off, none⟩) n cap)
            rw [hwB]
            have RA0 := RA.of_block (ho _ (by simp))
            have RB0 := RB.of_block (ho _ (by simp))
            have HB1 := hb _ _ (by simp) HB0
            refine hKz _ _ (fun _ => HKS.out _ HB1) ?_
            clear hKz Kz hwB q0 q1 q2 z0 z1 z2 ql ho hb
            have q0 := RB0.cell 0 rfl
            have z0 := RB0.frozen 0
            have q1 := RB0.cell 1 rfl
            have z1 := RB0.frozen 1
            have q2 := RB0.cell 2 rfl
            have z2 := RB0.frozen 2
            have ql := RB0.lt
            refine AnyJ.one (i := 7) (by kernel_rfl) rfl (fun Kz hKz => ?_)
            go_simp
            obtain ⟨wC, hwC, N1, ho, hb⟩ := RB0.put3 (.int .i64 n0) (.int .i64 n1) (.slice (some ⟨bb, off, none⟩) n cap)
            rw [hwC]
            have RA01 := RA0.of_block (ho _ (by simp))
            have N01 := N0.of_block (ho _ (by simp))
            have HB2 := hb _ _ (by simp) HB1
            refine hKz _ _ (fun _ => HKS.out _ HB2) ?_
            clear hKz Kz hwC q0 q1 q2 z0 z1 z2 ql ho hb
            have q0 := RA01.cell 0 rfl
            have z0 := RA01.frozen 0
            have q1 := RA01.cell 1 rfl
            have z1 := RA01.frozen 1
            have q2 := RA01.cell 2 rfl
            have z2 := RA01.frozen 2
            have ql := RA01.lt
            refine AnyJ.one (i := 8) (by kernel_rfl) rfl (fun Kz hKz => ?_)
            go_simp
            obtain ⟨wD, hwD, N2, ho, hb⟩ := RA01.put3 (.int .i64 n0) (.int .i64 n1) (.slice (some ⟨bb, off, none⟩) n cap)
            rw [hwD]
            have N12 := N1.of_block (ho _ (by simp))
            have N012 := N01.of_block (ho _ (by simp))
            have HB3 := hb _ _ (by simp) HB2
            refine hKz _ _ (fun _ => HKS.out _ HB3) ?_
            clear hKz Kz hwD q0 q1 q2 z0 z1 z2 ql ho hb
            refine AnyJ.done (by kernel_rfl) ?_ _
            try simp only [Act.put, List.setIfInBounds_toArray, List.set_cons_zero, List.set_cons_succ]
            go_wp2_with fail
            go_meet
            exact ⟨(w2.heap.size + 2), (w2.heap.size + 1), w2.heap.size, rfl, rfl, rfl, by omega, by omega, by omega, by omega, by omega, by omega, N012, N12, N2, HB3⟩
      case' rest =>
        obtain ⟨gx, gy, gz, rfl, rfl, rfl, hxy, hxz, hyz, hgx, hgy, hgz, RX, RY, RZ, hb3⟩ := hcut
        obtain ⟨w3, hw3⟩ : ∃ wd, wd = wc := ⟨_, rfl⟩
        subst hw3
        replace hb3 := hb3.out
        clear HKS
        have R_n_3 : Row w3 (w.heap.size) [.int .i64 n0, .int .i64 n1, .slice (some ⟨bb, off, none⟩) n cap] := by (repeat' (first | (with_reducible assumption) | (with_reducible refine Row.new' _ _ _ (by first | rfl | (simp; done) | omega)) | (with_reducible refine Row.alloc ?_ _) | (with_reducible refine Row.drew ?_) | (with_reducible refine Row.drewN ?_ _) | (with_reducible refine Row.step ?_ (by with_reducible assumption)) | (with_reducible refine Row.set2' ?_ _ _; first | exact ⟨_, _, by with_reducible assumption⟩ | exact ⟨_, _, Row.alloc (by with_reducible assumption) _⟩ | exact ⟨_, _, Row.alloc (Row.alloc (by with_reducible assumption) _) _⟩) | (with_reducible refine Row.other ?_ (by first | omega | (simp; done) | (simp; omega)) _)))
        have c_n_0_3 := R_n_3.cell 0 rfl
        have c_n_1_3 := R_n_3.cell 1 rfl
        have c_n_2_3 := R_n_3.cell 2 rfl
        have l_n_3 := R_n_3.lt
        have R_x_3 : Row w3 (gx) [.int .i64 n0, .int .i64 n1, .slice (some ⟨bb, off, none⟩) n cap] := by (repeat' (first | (with_reducible assumption) | (with_reducible refine Row.new' _ _ _ (by first | rfl | (simp; done) | omega)) | (with_reducible refine Row.alloc ?_ _) | (with_reducible refine Row.drew ?_) | (with_reducible refine Row.drewN ?_ _) | (with_reducible refine Row.step ?_ (by with_reducible assumption)) | (with_reducible refine Row.set2' ?_ _ _; first | exact ⟨_, _, by with_reducible assumption⟩ | exact ⟨_, _, Row.alloc (by with_reducible assumption) _⟩ | exact ⟨_, _, Row.alloc (Row.alloc (by with_reducible assumption) _) _⟩) | (with_reducible refine Row.other ?_ (by first | omega | (simp; done) | (simp; omega)) _)))
        have c_x_0_3 := R_x_3.cell 0 rfl
        have c_x_1_3 := R_x_3.cell 1 rfl
        have c_x_2_3 := R_x_3.cell 2 rfl
        have z_x_0_3 := R_x_3.frozen 0
        have z_x_1_3 := R_x_3.frozen 1
        have z_x_2_3 := R_x_3.frozen 2
        have l_x_3 := R_x_3.lt
        have R_y_3 : Row w3 (gy) [.int .i64 n0, .int .i64 n1, .slice (some ⟨bb, off, none⟩) n cap] := by (repeat' (first | (with_reducible assumption) | (with_reducible refine Row.new' _ _ _ (by first | rfl | (simp; done) | omega)) | (with_reducible refine Row.alloc ?_ _) | (with_reducible refine Row.drew ?_) | (with_reducible refine Row.drewN ?_ _) | (with_reducible refine Row.step ?_ (by with_reducible assumption)) | (with_reducible refine Row.set2' ?_ _ _; first | exact ⟨_, _, by with_reducible assumption⟩ | exact ⟨_, _, Row.alloc (by with_reducible assumption) _⟩ | exact ⟨_, _, Row.alloc (Row.alloc (by with_reducible assumption) _) _⟩) | (with_reducible refine Row.other ?_ (by first | omega | (simp; done) | (simp; omega)) _)))
        have c_y_0_3 := R_y_3.cell 0 rfl
        have c_y_1_3 := R_y_3.cell 1 rfl
        have c_y_2_3 := R_y_3.cell 2 rfl
        have z_y_0_3 := R_y_3.frozen 0
        have z_y_1_3 := R_y_3.frozen 1
        have z_y_2_3 := R_y_3.frozen 2
        have l_y_3 := R_y_3.lt
        have R_z_3 : Row w3 (gz) [.int .i64 n0, .int .i64 n1, .slice (some ⟨bb, off, none⟩) n cap] := by (repeat' (first | (with_reducible assumption) | (with_reducible refine Row.new' _ _ _ (by first | rfl | (simp; done) | omega)) | (with_reducible refine Row.alloc ?_ _) | (with_reducible refine Row.drew ?_) | (with_reducible refine Row.drewN ?_ _) | (with_reducible refine Row.step ?_ (by with_reducible assumption)) | (with_reducible refine Row.set2' ?_ _ _; first | exact ⟨_, _, by with_reducible assumption⟩ | exact ⟨_, _, Row.alloc (by with_reducible assumption) _⟩ | exact ⟨_, _, Row.alloc (Row.alloc (by with_reducible assumption) _) _⟩) | (with_reducible refine Row.other ?_ (by first | omega | (simp; done) | (simp; omega)) _)))
        have c_z_0_3 := R_z_3.cell 0 rfl
        have c_z_1_3 := R_z_3.cell 1 rfl
        have c_z_2_3 := R_z_3.cell 2 rfl
        have z_z_0_3 := R_z_3.frozen 0
        have z_z_1_3 := R_z_3.frozen 1
        have z_z_2_3 := R_z_3.frozen 2
        have l_z_3 := R_z_3.lt
        replace K := K.step (show Below w2.heap.size w2 w3 by (repeat' (first | (with_reducible exact Below.refl _ _) | (with_reducible assumption) | (with_reducible exact Bw.out (by with_reducible assumption)) | (with_reducible refine bw_alloc ?_ _) | (with_reducible refine bw_step ?_ (by with_reducible assumption)) | (with_reducible refine Below.alloc ?_ ?_ _) | (with_reducible refine Below.drew ?_) | (with_reducible refine below_drewN ?_ _) | (with_reducible refine Below.setCell ?_ ?_ _) | (with_reducible refine below_step ?_ (by with_reducible assumption) ?_) | (with_reducible exact Nat.le_refl _) | omega | (simp; omega) | (simp; done))))
        have HB3 : Below w.heap.size w w3 := by (repeat' (first | (with_reducible exact Below.refl _ _) | (with_reducible assumption) | (with_reducible exact Bw.out (by with_reducible assumption)) | (with_reducible refine bw_alloc ?_ _) | (with_reducible refine bw_step ?_ (by with_reducible assumption)) | (with_reducible refine Below.alloc ?_ ?_ _) | (with_reducible refine Below.drew ?_) | (with_reducible refine below_drewN ?_ _) | (with_reducible refine Below.setCell ?_ ?_ _) | (with_reducible refine below_step ?_ (by with_reducible assumption) ?_) | (with_reducible exact Nat.le_refl _) | omega | (simp; omega) | (simp; done)))
        clear R_n_2 c_n_0_2 c_n_1_2 c_n_2_2 hb2 HB2
        clear RX RY RZ
        have hnx : w.heap.size < gx := by omega
        have hny : w.heap.size < gy := by omega
        have hnz : w.heap.size < gz := by omega
        go_upto_region 8 with fail
        obtain ⟨w4, hw4⟩ : ∃ wd, (w3.setCell ⟨gx, 1, none⟩ (.int .i64 (n1 + 1))).setCell ⟨gz, 0, none⟩ (.int .i64 (n0 + 1)) = wd := ⟨_, rfl⟩
        rw [hw4]
        have R_x_4 : Row w4 gx [.int .i64 n0, .int .i64 (n1 + 1), .slice (some ⟨bb, off, none⟩) n cap] := by rw [← hw4]; exact (R_x_3.putAt 1 _ rfl).other hxz _
        have R_y_4 : Row w4 gy [.int .i64 n0, .int .i64 n1, .slice (some ⟨bb, off, none⟩) n cap] := by rw [← hw4]; exact (R_y_3.other (Ne.symm hxy) _).other hyz _
        have R_z_4 : Row w4 gz [.int .i64 (n0 + 1), .int .i64 n1, .slice (some ⟨bb, off, none⟩) n cap] := by rw [← hw4]; exact (R_z_3.other (Ne.symm hxz) _).putAt 0 _ rfl
        have R_n_4 : Row w4 w.heap.size [.int .i64 n0, .int .i64 n1, .slice (some ⟨bb, off, none⟩) n cap] := by rw [← hw4]; exact (R_n_3.other (by simp; omega) _).other (by simp; omega) _
        have HB4 : Below w.heap.size w w4 := by rw [← hw4]; exact (HB3.setCell (by simp; omega) _).setCell (by simp; omega) _
        clear hw4 R_x_3 R_y_3 R_z_3 R_n_3 HB3 hb3 c_x_0_3 c_x_1_3 c_x_2_3 c_y_0_3 c_y_1_3 c_y_2_3 c_z_0_3 c_z_1_3 c_z_2_3 c_n_0_3 c_n_1_3 c_n_2_3 z_x_0_3 z_x_1_3 z_x_2_3 z_y_0_3 z_y_1_3 z_y_2_3 z_z_0_3 z_z_1_3 z_z_2_3
        have c_n_2_4 := R_n_4.cell 2 rfl
        have l_n_4 := R_n_4.lt
        have l_y_4 := R_y_4.lt
        have KS4 := Lib.hid (SlC.sl (K0.out.step HB4))
        go_upto_region 9 with (at_builtin; refine wpList_append_ints rfl _ _ _ rfl Try.underlying28 w4.heap.size _ [] rfl (OwnV.lit ⟨_, heap_new _ _, rfl⟩ (by simp)) ⟨bb, off, none⟩ n cap zs rfl (KS4.out.below (by (repeat' (first | (with_reducible exact Below.refl _ _) | (with_reducible assumption) | (with_reducible exact Bw.out (by with_reducible assumption)) | (with_reducible refine bw_alloc ?_ _) | (with_reducible refine bw_step ?_ (by with_reducible assumption)) | (with_reducible refine Below.alloc ?_ ?_ _) | (with_reducible refine Below.drew ?_) | (with_reducible refine below_drewN ?_ _) | (with_reducible refine Below.setCell ?_ ?_ _) | (with_reducible refine below_step ?_ (by with_reducible assumption) ?_) | (with_reducible exact Nat.le_refl _) | omega | (simp; omega) | (simp; done))))) (by simp; omega) (by simp) ?_; intro v' w5 hown5 hbl5 hsz5; obtain ⟨g, cp, rfl, hg5, hO5, hc1, hc2⟩ := hown5.own2 (by rw [List.nil_append]; exact HLZ.out) hn0; have hb5 : Below w4.heap.size w4 w5 := hbl5 w4 (by (repeat' (first | (with_reducible exact Below.refl _ _) | (with_reducible assumption) | (with_reducible exact Bw.out (by with_reducible assumption)) | (with_reducible refine bw_alloc ?_ _) | (with_reducible refine bw_step ?_ (by with_reducible assumption)) | (with_reducible refine Below.alloc ?_ ?_ _) | (with_reducible refine Below.drew ?_) | (with_reducible refine below_drewN ?_ _) | (with_reducible refine Below.setCell ?_ ?_ _) | (with_reducible refine below_step ?_ (by with_reducible assumption) ?_) | (with_reducible exact Nat.le_refl _) | omega | (simp; omega) | (simp; done)))); have R_y_5 := R_y_4.step hb5; have cy5 := R_y_5.cell 2 rfl; have zy5 := R_y_5.frozen 2; have ly5 := R_y_5.lt)
        clear cy5 zy5
        rw [List.nil_append] at hO5
        obtain ⟨w6, hw6⟩ : ∃ wd, w5.setCell ⟨gy, 2, none⟩ (.slice (some ⟨g, 0, none⟩) n cp) = wd := ⟨_, rfl⟩
        rw [hw6]
        have hyx4 : gy < w4.heap.size := R_y_4.lt
        have hxx4 : gx < w4.heap.size := R_x_4.lt
        have hzx4 : gz < w4.heap.size := R_z_4.lt
        have hnx4 : w.heap.size < w4.heap.size := R_n_4.lt
        have R_x_6 : Row w6 gx [.int .i64 n0, .int .i64 (n1 + 1), .slice (some ⟨bb, off, none⟩) n cap] := by rw [← hw6]; exact (R_x_4.step hb5).other hxy _
        have R_y_6 : Row w6 gy [.int .i64 n0, .int .i64 n1, .slice (some ⟨g, 0, none⟩) n cp] := by rw [← hw6]; exact R_y_5.putAt 2 _ rfl
        have R_z_6 : Row w6 gz [.int .i64 (n0 + 1), .int .i64 n1, .slice (some ⟨bb, off, none⟩) n cap] := by rw [← hw6]; exact (R_z_4.step hb5).other (Ne.symm hyz) _
        have R_n_6 : Row w6 w.heap.size [.int .i64 n0, .int .i64 n1, .slice (some ⟨bb, off, none⟩) n cap] := by rw [← hw6]; exact (R_n_4.step hb5).other (by simp; omega) _
        have O6 : OwnI w6 g zs := by rw [← hw6]; exact hO5.of_block (Below.heap_setCell _ _ _ _ (by simp; omega))
        have HB6 : Below w.heap.size w w6 := by rw [← hw6]; exact (HB4.trans (hb5.mono HB4.size)).setCell (by simp; omega) _
        clear hw6 hown5 hbl5 hO5 hb5 KS4 R_x_4 R_y_4 R_z_4 R_n_4 R_y_5 HB4 c_n_2_4
        have c_y_2_6 := R_y_6.cell 2 rfl
        have gk6 : w6.cell? ⟨g, k, none⟩ = some (.int .i64 z) := by have := O6.cell (i := k) (by rw [HLZ.out]; exact hkp); rwa [HZ.out] at this
        have gz6 := O6.frozen k
        have gl6 := O6.lt
        have HO6 := Lib.hid O6
        clear O6
        go_upto_region 10 with fail
        obtain ⟨w7, hw7⟩ : ∃ wd, w6.setCell ⟨g, k, none⟩ (.int .i64 (z + 1)) = wd := ⟨_, rfl⟩
        rw [hw7]
        have R_x_7 : Row w7 gx [.int .i64 n0, .int .i64 (n1 + 1), .slice (some ⟨bb, off, none⟩) n cap] := by rw [← hw7]; exact R_x_6.other (by simp; omega) _
        have R_y_7 : Row w7 gy [.int .i64 n0, .int .i64 n1, .slice (some ⟨g, 0, none⟩) n cp] := by rw [← hw7]; exact R_y_6.other (by simp; omega) _
        have R_z_7 : Row w7 gz [.int .i64 (n0 + 1), .int .i64 n1, .slice (some ⟨bb, off, none⟩) n cap] := by rw [← hw7]; exact R_z_6.other (by simp; omega) _
        have R_n_7 : Row w7 w.heap.size [.int .i64 n0, .int .i64 n1, .slice (some ⟨bb, off, none⟩) n cap] := by rw [← hw7]; exact R_n_6.other (by simp; omega) _
        have KG : SlC w7 (some ⟨g, 0, none⟩) n cp (zs.set k (z + 1)) := by rw [← hw7]; exact (HO6.out.set (by rw [HLZ.out]; exact hkp) _).slc (by rw [List.length_set]; exact HLZ.out) hc1 hc2
        have HB7 : Below w.heap.size w w7 := by rw [← hw7]; exact HB6.setCell (by simp; omega) _
        clear hw7 HO6 gk6 gz6 gl6 R_x_6 R_y_6 R_z_6 R_n_6 HB6 c_y_2_6
        have K := K0.out.step HB7
        have c_x_0_7 := R_x_7.cell 0 rfl
        have c_x_1_7 := R_x_7.cell 1 rfl
        have c_x_2_7 := R_x_7.cell 2 rfl
        have l_x_7 := R_x_7.lt
        have c_y_0_7 := R_y_7.cell 0 rfl
        have c_y_1_7 := R_y_7.cell 1 rfl
        have c_y_2_7 := R_y_7.cell 2 rfl
        have l_y_7 := R_y_7.lt
        have c_z_0_7 := R_z_7.cell 0 rfl
        have c_z_1_7 := R_z_7.cell 1 rfl
        have c_z_2_7 := R_z_7.cell 2 rfl
        have l_z_7 := R_z_7.lt
        have c_n_0_7 := R_n_7.cell 0 rfl
        have c_n_1_7 := R_n_7.cell 1 rfl
        have c_n_2_7 := R_n_7.cell 2 rfl
        have l_n_7 := R_n_7.lt
        go_wp2_with fail
        refine (usable_any n0 (n1 + 1) m _ _ _ zs _ (K.step (by (repeat' (first | (with_reducible exact Below.refl _ _) | (with_reducible assumption) | (with_reducible exact Bw.out (by with_reducible assumption)) | (with_reducible refine bw_alloc ?_ _) | (with_reducible refine bw_step ?_ (by with_reducible assumption)) | (with_reducible refine Below.alloc ?_ ?_ _) | (with_reducible refine Below.drew ?_) | (with_reducible refine below_drewN ?_ _) | (with_reducible refine Below.setCell ?_ ?_ _) | (with_reducible refine below_step ?_ (by with_reducible assumption) ?_) | (with_reducible exact Nat.le_refl _) | omega | (simp; omega) | (simp; done))))) (by omega) U1 HU1.out).mono ?_
        rintro e w8 ⟨rfl, hb8⟩
        have R_n_8 : Row w8 (w.heap.size) [.int .i64 n0, .int .i64 n1, .slice (some ⟨bb, off, none⟩) n cap] := by (repeat' (first | (with_reducible assumption) | (with_reducible refine Row.new' _ _ _ (by first | rfl | (simp; done) | omega)) | (with_reducible refine Row.alloc ?_ _) | (with_reducible refine Row.drew ?_) | (with_reducible refine Row.drewN ?_ _) | (with_reducible refine Row.step ?_ (by with_reducible assumption)) | (with_reducible refine Row.set2' ?_ _ _; first | exact ⟨_, _, by with_reducible assumption⟩ | exact ⟨_, _, Row.alloc (by with_reducible assumption) _⟩ | exact ⟨_, _, Row.alloc (Row.alloc (by with_reducible assumption) _) _⟩) | (with_reducible refine Row.other ?_ (by first | omega | (simp; done) | (simp; omega)) _)))
        have c_n_0_8 := R_n_8.cell 0 rfl
        have c_n_1_8 := R_n_8.cell 1 rfl
        have c_n_2_8 := R_n_8.cell 2 rfl
        have l_n_8 := R_n_8.lt
        have R_x_8 : Row w8 (gx) [.int .i64 n0, .int .i64 (n1 + 1), .slice (some ⟨bb, off, none⟩) n cap] := by (repeat' (first | (with_reducible assumption) | (with_reducible refine Row.new' _ _ _ (by first | rfl | (simp; done) | omega)) | (with_reducible refine Row.alloc ?_ _) | (with_reducible refine Row.drew ?_) | (with_reducible refine Row.drewN ?_ _) | (with_reducible refine Row.step ?_ (by with_reducible assumption)) | (with_reducible refine Row.set2' ?_ _ _; first | exact ⟨_, _, by with_reducible assumption⟩ | exact ⟨_, _, Row.alloc (by with_reducible assumption) _⟩ | exact ⟨_, _, Row.alloc (Row.alloc (by with_reducible assumption) _) _⟩) | (with_reducible refine Row.other ?_ (by first | omega | (simp; done) | (simp; omega)) _)))
        have c_x_0_8 := R_x_8.cell 0 rfl
        have c_x_1_8 := R_x_8.cell 1 rfl
        have c_x_2_8 := R_x_8.cell 2 rfl
        have l_x_8 := R_x_8.lt
        have R_y_8 : Row w8 (gy) [.int .i64 n0, .int .i64 n1, .slice (some ⟨g, 0, none⟩) n cp] := by (repeat' (first | (with_reducible assumption) | (with_reducible refine Row.new' _ _ _ (by first | rfl | (simp; done) | omega)) | (with_reducible refine Row.alloc ?_ _) | (with_reducible refine Row.drew ?_) | (with_reducible refine Row.drewN ?_ _) | (with_reducible refine Row.step ?_ (by with_reducible assumption)) | (with_reducible refine Row.set2' ?_ _ _; first | exact ⟨_, _, by with_reducible assumption⟩ | exact ⟨_, _, Row.alloc (by with_reducible assumption) _⟩ | exact ⟨_, _, Row.alloc (Row.alloc (by with_reducible assumption) _) _⟩) | (with_reducible refine Row.other ?_ (by first | omega | (simp; done) | (simp; omega)) _)))
        have c_y_0_8 := R_y_8.cell 0 rfl
        have c_y_1_8 := R_y_8.cell 1 rfl
        have c_y_2_8 := R_y_8.cell 2 rfl
        have l_y_8 := R_y_8.lt
        have R_z_8 : Row w8 (gz) [.int .i64 (n0 + 1), .int .i64 n1, .slice (some ⟨bb, off, none⟩) n cap] := by (repeat' (first | (with_reducible assumption) | (with_reducible refine Row.new' _ _ _ (by first | rfl | (simp; done) | omega)) | (with_reducible refine Row.alloc ?_ _) | (with_reducible refine Row.drew ?_) | (with_reducible refine Row.drewN ?_ _) | (with_reducible refine Row.step ?_ (by with_reducible assumption)) | (with_reducible refine Row.set2' ?_ _ _; first | exact ⟨_, _, by with_reducible assumption⟩ | exact ⟨_, _, Row.alloc (by with_reducible assumption) _⟩ | exact ⟨_, _, Row.alloc (Row.alloc (by with_reducible assumption) _) _⟩) | (with_reducible refine Row.other ?_ (by first | omega | (simp; done) | (simp; omega)) _)))
        have c_z_0_8 := R_z_8.cell 0 rfl
        have c_z_1_8 := R_z_8.cell 1 rfl
        have c_z_2_8 := R_z_8.cell 2 rfl
        have l_z_8 := R_z_8.lt
        replace K := K.step (show Below w7.heap.size w7 w8 by (repeat' (first | (with_reducible exact Below.refl _ _) | (with_reducible assumption) | (with_reducible exact Bw.out (by with_reducible assumption)) | (with_reducible refine bw_alloc ?_ _) | (with_reducible refine bw_step ?_ (by with_reducible assumption)) | (with_reducible refine Below.alloc ?_ ?_ _) | (with_reducible refine Below.drew ?_) | (with_reducible refine below_drewN ?_ _) | (with_reducible refine Below.setCell ?_ ?_ _) | (with_reducible refine below_step ?_ (by with_reducible assumption) ?_) | (with_reducible exact Nat.le_refl _) | omega | (simp; omega) | (simp; done))))
        replace KG := KG.step (show Below w7.heap.size w7 w8 by (repeat' (first | (with_reducible exact Below.refl _ _) | (with_reducible assumption) | (with_reducible exact Bw.out (by with_reducible assumption)) | (with_reducible refine bw_alloc ?_ _) | (with_reducible refine bw_step ?_ (by with_reducible assumption)) | (with_reducible refine Below.alloc ?_ ?_ _) | (with_reducible refine Below.drew ?_) | (with_reducible refine below_drewN ?_ _) | (with_reducible refine Below.setCell ?_ ?_ _) | (with_reducible refine below_step ?_ (by with_reducible assumption) ?_) | (with_reducible exact Nat.le_refl _) | omega | (simp; omega) | (simp; done))))
        have HB8 : Below w.heap.size w w8 := by (repeat' (first | (with_reducible exact Below.refl _ _) | (with_reducible assumption) | (with_reducible exact Bw.out (by with_reducible assumption)) | (with_reducible refine bw_alloc ?_ _) | (with_reducible refine bw_step ?_ (by with_reducible assumption)) | (with_reducible refine Below.alloc ?_ ?_ _) | (with_reducible refine Below.drew ?_) | (with_reducible refine below_drewN ?_ _) | (with_reducible refine Below.setCell ?_ ?_ _) | (with_reducible refine below_step ?_ (by with_reducible assumption) ?_) | (with_reducible exact Nat.le_refl _) | omega | (simp; omega) | (simp; done)))
        cases U1 with
        | false =>
          go_wp2_with fail
          go_ret
          refine ⟨(by first | rfl | exact ret_bool (by first | rfl | (simp; done) | (simp; omega))), ?_⟩
          (repeat' (first | (with_reducible exact Below.refl _ _) | (with_reducible assumption) | (with_reducible exact Bw.out (by with_reducible assumption)) | (with_reducible refine bw_alloc ?_ _) | (with_reducible refine bw_step ?_ (by with_reducible assumption)) | (with_reducible refine Below.alloc ?_ ?_ _) | (with_reducible refine Below.drew ?_) | (with_reducible refine below_drewN ?_ _) | (with_reducible refine Below.setCell ?_ ?_ _) | (with_reducible refine below_step ?_ (by with_reducible assumption) ?_) | (with_reducible exact Nat.le_refl _) | omega | (simp; omega) | (simp; done)))
        | true =>
          go_wp2_with fail
          refine (usable_any n0 n1 m _ _ _ (zs.set k (z + 1)) _ (KG.step (by (repeat' (first | (with_reducible exact Below.refl _ _) | (with_reducible assumption) | (with_reducible exact Bw.out (by with_reducible assumption)) | (with_reducible refine bw_alloc ?_ _) | (with_reducible refine bw_step ?_ (by with_reducible assumption)) | (with_reducible refine Below.alloc ?_ ?_ _) | (with_reducible refine Below.drew ?_) | (with_reducible refine below_drewN ?_ _) | (with_reducible refine Below.setCell ?_ ?_ _) | (with_reducible refine below_step ?_ (by with_reducible assumption) ?_) | (with_reducible exact Nat.le_refl _) | omega | (simp; omega) | (simp; done))))) (by omega) U2 HU2.out).mono ?_
          rintro e w9 ⟨rfl, hb9⟩
          have R_n_9 : Row w9 (w.heap.size) [.int .i64 n0, .int .i64 n1, .slice (some ⟨bb, off, none⟩) n cap] := by (repeat' (first | (with_reducible assumption) | (with_reducible refine Row.new' _ _ _ (by first | rfl | (simp; done) | omega)) | (with_reducible refine Row.alloc ?_ _) | (with_reducible refine Row.drew ?_) | (with_reducible refine Row.drewN ?_ _) | (with_reducible refine Row.step ?_ (by with_reducible assumption)) | (with_reducible refine Row.set2' ?_ _ _; first | exact ⟨_, _, by with_reducible assumption⟩ | exact ⟨_, _, Row.alloc (by with_reducible assumption) _⟩ | exact ⟨_, _, Row.alloc (Row.alloc (by with_reducible assumption) _) _⟩) | (with_reducible refine Row.other ?_ (by first | omega | (simp; done) | (simp; omega)) _)))
          have c_n_0_9 := R_n_9.cell 0 rfl
          have c_n_1_9 := R_n_9.cell 1 rfl
          have c_n_2_9 := R_n_9.cell 2 rfl
          have l_n_9 := R_n_9.lt
          have R_x_9 : Row w9 (gx) [.int .i64 n0, .int .i64 (n1 + 1), .slice (some ⟨bb, off, none⟩) n cap] := by (repeat' (first | (with_reducible assumption) | (with_reducible refine Row.new' _ _ _ (by first | rfl | (simp; done) | omega)) | (with_reducible refine Row.alloc ?_ _) | (with_reducible refine Row.drew ?_) | (with_reducible refine Row.drewN ?_ _) | (with_reducible refine Row.step ?_ (by with_reducible assumption)) | (with_reducible refine Row.set2' ?_ _ _; first | exact ⟨_, _, by with_reducible assumption⟩ | exact ⟨_, _, Row.alloc (by with_reducible assumption) _⟩ | exact ⟨_, _, Row.alloc (Row.alloc (by with_reducible assumption) _) _⟩) | (with_reducible refine Row.other ?_ (by first | omega | (simp; done) | (simp; omega)) _)))
          have c_x_0_9 := R_x_9.cell 0 rfl
          have c_x_1_9 := R_x_9.cell 1 rfl
          have c_x_2_9 := R_x_9.cell 2 rfl
          have l_x_9 := R_x_9.lt
          have R_y_9 : Row w9 (gy) [.int .i64 n0, .int .i64 n1, .slice (some ⟨g, 0, none⟩) n cp] := by (repeat' (first | (with_reducible assumption) | (with_reducible refine Row.new' _ _ _ (by first | rfl | (simp; done) | omega)) | (with_reducible refine Row.alloc ?_ _) | (with_reducible refine Row.drew ?_) | (with_reducible refine Row.drewN ?_ _) | (with_reducible refine Row.step ?_ (by with_reducible assumption)) | (with_reducible refine Row.set2' ?_ _ _; first | exact ⟨_, _, by with_reducible assumption⟩ | exact ⟨_, _, Row.alloc (by with_reducible assumption) _⟩ | exact ⟨_, _, Row.alloc (Row.alloc (by with_reducible assumption) _) _⟩) | (with_reducible refine Row.other ?_ (by first | omega | (simp; done) | (simp; omega)) _)))
          have c_y_0_9 := R_y_9.cell 0 rfl
          have c_y_1_9 := R_y_9.cell 1 rfl
          have c_y_2_9 := R_y_9.cell 2 rfl
          have l_y_9 := R_y_9.lt
          have R_z_9 : Row w9 (gz) [.int .i64 (n0 + 1), .int .i64 n1, .slice (some ⟨bb, off, none⟩) n cap] := by (repeat' (first | (with_reducible assumption) | (with_reducible refine Row.new' _ _ _ (by first | rfl | (simp; done) | omega)) | (with_reducible refine Row.alloc ?_ _) | (with_reducible refine Row.drew ?_) | (with_reducible refine Row.drewN ?_ _) | (with_reducible refine Row.step ?_ (by with_reducible assumption)) | (with_reducible refine Row.set2' ?_ _ _; first | exact ⟨_, _, by with_reducible assumption⟩ | exact ⟨_, _, Row.alloc (by with_reducible assumption) _⟩ | exact ⟨_, _, Row.alloc (Row.alloc (by with_reducible assumption) _) _⟩) | (with_reducible refine Row.other ?_ (by first | omega | (simp; done) | (simp; omega)) _)))
          have c_z_0_9 := R_z_9.cell 0 rfl
          have c_z_1_9 := R_z_9.cell 1 rfl
          have c_z_2_9 := R_z_9.cell 2 rfl
          have l_z_9 := R_z_9.lt
          replace K := K.step (show Below w8.heap.size w8 w9 by (repeat' (first | (with_reducible exact Below.refl _ _) | (with_reducible assumption) | (with_reducible exact Bw.out (by with_reducible assumption)) | (with_reducible refine bw_alloc ?_ _) | (with_reducible refine bw_step ?_ (by with_reducible assumption)) | (with_reducible refine Below.alloc ?_ ?_ _) | (with_reducible refine Below.drew ?_) | (with_reducible refine below_drewN ?_ _) | (with_reducible refine Below.setCell ?_ ?_ _) | (with_reducible refine below_step ?_ (by with_reducible assumption) ?_) | (with_reducible exact Nat.le_refl _) | omega | (simp; omega) | (simp; done))))
          replace KG := KG.step (show Below w8.heap.size w8 w9 by (repeat' (first | (with_reducible exact Below.refl _ _) | (with_reducible assumption) | (with_reducible exact Bw.out (by with_reducible assumption)) | (with_reducible refine bw_alloc ?_ _) | (with_reducible refine bw_step ?_ (by with_reducible assumption)) | (with_reducible refine Below.alloc ?_ ?_ _) | (with_reducible refine Below.drew ?_) | (with_reducible refine below_drewN ?_ _) | (with_reducible refine Below.setCell ?_ ?_ _) | (with_reducible refine below_step ?_ (by with_reducible assumption) ?_) | (with_reducible exact Nat.le_refl _) | omega | (simp; omega) | (simp; done))))
          have HB9 : Below w.heap.size w w9 := by (repeat' (first | (with_reducible exact Below.refl _ _) | (with_reducible assumption) | (with_reducible exact Bw.out (by with_reducible assumption)) | (with_reducible refine bw_alloc ?_ _) | (with_reducible refine bw_step ?_ (by with_reducible assumption)) | (with_reducible refine Below.alloc ?_ ?_ _) | (with_reducible refine Below.drew ?_) | (with_reducible refine below_drewN ?_ _) | (with_reducible refine Below.setCell ?_ ?_ _) | (with_reducible refine below_step ?_ (by with_reducible assumption) ?_) | (with_reducible exact Nat.le_refl _) | omega | (simp; omega) | (simp; done)))
          clear R_n_8 c_n_0_8 c_n_1_8 c_n_2_8 R_x_8 c_x_0_8 c_x_1_8 c_x_2_8 R_y_8 c_y_0_8 c_y_1_8 c_y_2_8 R_z_8 c_z_0_8 c_z_1_8 c_z_2_8 hb8 HB8
          cases U2 with
          | false =>
            go_wp2_with fail
            go_ret
            refine ⟨(by first | rfl | exact ret_bool (by first | rfl | (simp; done) | (simp; omega))), ?_⟩
            (repeat' (first | (with_reducible exact Below.refl _ _) | (with_reducible assumption) | (with_reducible exact Bw.out (by with_reducible assumption)) | (with_reducible refine bw_alloc ?_ _) | (with_reducible refine bw_step ?_ (by with_reducible assumption)) | (with_reducible refine Below.alloc ?_ ?_ _) | (with_reducible refine Below.drew ?_) | (with_reducible refine below_drewN ?_ _) | (with_reducible refine Below.setCell ?_ ?_ _) | (with_reducible refine below_step ?_ (by with_reducible assumption) ?_) | (with_reducible exact Nat.le_refl _) | omega | (simp; omega) | (simp; done)))
          | true =>
            go_wp2_with fail
            refine (usable_any (n0 + 1) n1 m _ _ _ zs _ (K.step (by (repeat' (first | (with_reducible exact Below.refl _ _) | (with_reducible assumption) | (with_reducible exact Bw.out (by with_reducible assumption)) | (with_reducible refine bw_alloc ?_ _) | (with_reducible refine bw_step ?_ (by with_reducible assumption)) | (with_reducible refine Below.alloc ?_ ?_ _) | (with_reducible refine Below.drew ?_) | (with_reducible refine below_drewN ?_ _) | (with_reducible refine Below.setCell ?_ ?_ _) | (with_reducible refine below_step ?_ (by with_reducible assumption) ?_) | (with_reducible exact Nat.le_refl _) | omega | (simp; omega) | (simp; done))))) (by omega) U3 HU3.out).mono ?_
            rintro e w10 ⟨rfl, hb10⟩
            have R_n_10 : Row w10 (w.heap.size) [.int .i64 n0, .int .i64 n1, .slice (some ⟨bb, off, none⟩) n cap] := by (repeat' (first | (with_reducible assumption) | (with_reducible refine Row.new' _ _ _ (by first | rfl | (simp; done) | omega)) | (with_reducible refine Row.alloc ?_ _) | (with_reducible refine Row.drew ?_) | (with_reducible refine Row.drewN ?_ _) | (with_reducible refine Row.step ?_ (by with_reducible assumption)) | (with_reducible refine Row.set2' ?_ _ _; first | exact ⟨_, _, by with_reducible assumption⟩ | exact ⟨_, _, Row.alloc (by with_reducible assumption) _⟩ | exact ⟨_, _, Row.alloc (Row.alloc (by with_reducible assumption) _) _⟩) | (with_reducible refine Row.other ?_ (by first | omega | (simp; done) | (simp; omega)) _)))
            have c_n_0_10 := R_n_10.cell 0 rfl
            have c_n_1_10 := R_n_10.cell 1 rfl
            have c_n_2_10 := R_n_10.cell 2 rfl
            have l_n_10 := R_n_10.lt
            have R_x_10 : Row w10 (gx) [.int .i64 n0, .int .i64 (n1 + 1), .slice (some ⟨bb, off, none⟩) n cap] := by (repeat' (first | (with_reducible assumption) | (with_reducible refine Row.new' _ _ _ (by first | rfl | (simp; done) | omega)) | (with_reducible refine Row.alloc ?_ _) | (with_reducible refine Row.drew ?_) | (with_reducible refine Row.drewN ?_ _) | (with_reducible refine Row.step ?_ (by with_reducible assumption)) | (with_reducible refine Row.set2' ?_ _ _; first | exact ⟨_, _, by with_reducible assumption⟩ | exact ⟨_, _, Row.alloc (by with_reducible assumption) _⟩ | exact ⟨_, _, Row.alloc (Row.alloc (by with_reducible assumption) _) _⟩) | (with_reducible refine Row.other ?_ (by first | omega | (simp; done) | (simp; omega)) _)))
            have c_x_0_10 := R_x_10.cell 0 rfl
            have c_x_1_10 := R_x_10.cell 1 rfl
            have c_x_2_10 := R_x_10.cell 2 rfl
            have l_x_10 := R_x_10.lt
            have R_y_10 : Row w10 (gy) [.int .i64 n0, .int .i64 n1, .slice (some ⟨g, 0, none⟩) n cp] := by (repeat' (first | (with_reducible assumption) | (with_reducible refine Row.new' _ _ _ (by first | rfl | (simp; done) | omega)) | (with_reducible refine Row.alloc ?_ _) | (with_reducible refine Row.drew ?_) | (with_reducible refine Row.drewN ?_ _) | (with_reducible refine Row.step ?_ (by with_reducible assumption)) | (with_reducible refine Row.set2' ?_ _ _; first | exact ⟨_, _, by with_reducible assumption⟩ | exact ⟨_, _, Row.alloc (by with_reducible assumption) _⟩ | exact ⟨_, _, Row.alloc (Row.alloc (by with_reducible assumption) _) _⟩) | (with_reducible refine Row.other ?_ (by first | omega | (simp; done) | (simp; omega)) _)))
            have c_y_0_10 := R_y_10.cell 0 rfl
            have c_y_1_10 := R_y_10.cell 1 rfl
            have c_y_2_10 := R_y_10.cell 2 rfl
            have l_y_10 := R_y_10.lt
            have R_z_10 : Row w10 (gz) [.int .i64 (n0 + 1), .int .i64 n1, .slice (some ⟨bb, off, none⟩) n cap] := by (repeat' (first | (with_reducible assumption) | (with_reducible refine Row.new' _ _ _ (by first | rfl | (simp; done) | omega)) | (with_reducible refine Row.alloc ?_ _) | (with_reducible refine Row.drew ?_) | (with_reducible refine Row.drewN ?_ _) | (with_reducible refine Row.step ?_ (by with_reducible assumption)) | (with_reducible refine Row.set2' ?_ _ _; first | exact ⟨_, _, by with_reducible assumption⟩ | exact ⟨_, _, Row.alloc (by with_reducible assumption) _⟩ | exact ⟨_, _, Row.alloc (Row.alloc (by with_reducible assumption) _) _⟩) | (with_reducible refine Row.other ?_ (by first | omega | (simp; done) | (simp; omega)) _)))
            have c_z_0_10 := R_z_10.cell 0 rfl
            have c_z_1_10 := R_z_10.cell 1 rfl
            have c_z_2_10 := R_z_10.cell 2 rfl
            have l_z_10 := R_z_10.lt
            replace K := K.step (show Below w9.heap.size w9 w10 by (repeat' (first | (with_reducible exact Below.refl _ _) | (with_reducible assumption) | (with_reducible exact Bw.out (by with_reducible assumption)) | (with_reducible refine bw_alloc ?_ _) | (with_reducible refine bw_step ?_ (by with_reducible assumption)) | (with_reducible refine Below.alloc ?_ ?_ _) | (with_reducible refine Below.drew ?_) | (with_reducible refine below_drewN ?_ _) | (with_reducible refine Below.setCell ?_ ?_ _) | (with_reducible refine below_step ?_ (by with_reducible assumption) ?_) | (with_reducible exact Nat.le_refl _) | omega | (simp; omega) | (simp; done))))
            replace KG := KG.step (show Below w9.heap.size w9 w10 by (repeat' (first | (with_reducible exact Below.refl _ _) | (with_reducible assumption) | (with_reducible exact Bw.out (by with_reducible assumption)) | (with_reducible refine bw_alloc ?_ _) | (with_reducible refine bw_step ?_ (by with_reducible assumption)) | (with_reducible refine Below.alloc ?_ ?_ _) | (with_reducible refine Below.drew ?_) | (with_reducible refine below_drewN ?_ _) | (with_reducible refine Below.setCell ?_ ?_ _) | (with_reducible refine below_step ?_ (by with_reducible assumption) ?_) | (with_reducible exact Nat.le_refl _) | omega | (simp; omega) | (simp; done))))
            have HB10 : Below w.heap.size w w10 := by (repeat' (first | (with_reducible exact Below.refl _ _) | (with_reducible assumption) | (with_reducible exact Bw.out (by with_reducible assumption)) | (with_reducible refine bw_alloc ?_ _) | (with_reducible refine bw_step ?_ (by with_reducible assumption)) | (with_reducible refine Below.alloc ?_ ?_ _) | (with_reducible refine Below.drew ?_) | (with_reducible refine below_drewN ?_ _) | (with_reducible refine Below.setCell ?_ ?_ _) | (with_reducible refine below_step ?_ (by with_reducible assumption) ?_) | (with_reducible exact Nat.le_refl _) | omega | (simp; omega) | (simp; done)))
            clear R_n_9 c_n_0_9 c_n_1_9 c_n_2_9 R_x_9 c_x_0_9 c_x_1_9 c_x_2_9 R_y_9 c_y_0_9 c_y_1_9 c_y_2_9 R_z_9 c_z_0_9 c_z_1_9 c_z_2_9 hb9 HB9
            cases U3 with
            | false =>
              go_wp2_with fail
              go_ret
              refine ⟨(by first | rfl | exact ret_bool (by first | rfl | (simp; done) | (simp; omega))), ?_⟩
              (repeat' (first | (with_reducible exact Below.refl _ _) | (with_reducible assumption) | (with_reducible exact Bw.out (by with_reducible assumption)) | (with_reducible refine bw_alloc ?_ _) | (with_reducible refine bw_step ?_ (by with_reducible assumption)) | (with_reducible refine Below.alloc ?_ ?_ _) | (with_reducible refine Below.drew ?_) | (with_reducible refine below_drewN ?_ _) | (with_reducible refine Below.setCell ?_ ?_ _) | (with_reducible refine below_step ?_ (by with_reducible assumption) ?_) | (with_reducible exact Nat.le_refl _) | omega | (simp; omega) | (simp; done)))
            | true =>
              go_wp2_with fail
              refine (R_Cut_any ((m : Int) + 1) _).mono ?_
              rintro e w' ⟨rfl, rfl⟩
              by_cases hm1 : m + 1 ≤ 30
              · rw [inB_true (by omega) (by omega)]
                obtain ⟨H1, H2, H3, H4, H5⟩ := grow_walked HUS.out HU1.out HU2.out HU3.out hm1
                obtain ⟨W, hW⟩ : ∃ W, wkI n0 n1 zs m = W := ⟨_, rfl⟩
                obtain ⟨A, hA⟩ : ∃ W, wkI n0 n1 zs (m + 1) = W := ⟨_, rfl⟩
                obtain ⟨B, hB⟩ : ∃ W, wkI n0 (n1 + 1) zs m = W := ⟨_, rfl⟩
                obtain ⟨C, hC⟩ : ∃ W, wkI n0 n1 (zs.set k (z + 1)) m = W := ⟨_, rfl⟩
                obtain ⟨D, hD⟩ : ∃ W, wkI (n0 + 1) n1 zs m = W := ⟨_, rfl⟩
                obtain ⟨f1, f2, f3, f4, f5, f6, f7, f8, f9⟩ := grow_facts HUS.out (by rw [HLZ.out]; exact hkp) HZ.out m
                rw [hW] at H1 f1 f2 f3 f4 f5 f6 f7 f8 f9
                rw [hA] at H2 f3
                rw [hB] at H3 f4 f5
                rw [hC] at H4 f6 f7
                rw [hD] at H5 f8 f9
                have G1 := Lib.hid H1
                have G2 := Lib.hid H2
                have G3 := Lib.hid H3
                have G4 := Lib.hid H4
                have G5 := Lib.hid H5
                clear H1 H2 H3 H4 H5 hW hA hB hC hD
                go_wp2_with fail
                refine (Walked_any n0 n1 m _ _ _ zs _ (K.step (by (repeat' (first | (with_reducible exact Below.refl _ _) | (with_reducible assumption) | (with_reducible exact Bw.out (by with_reducible assumption)) | (with_reducible refine bw_alloc ?_ _) | (with_reducible refine bw_step ?_ (by with_reducible assumption)) | (with_reducible refine Below.alloc ?_ ?_ _) | (with_reducible refine Below.drew ?_) | (with_reducible refine below_drewN ?_ _) | (with_reducible refine Below.setCell ?_ ?_ _) | (with_reducible refine below_step ?_ (by with_reducible assumption) ?_) | (with_reducible exact Nat.le_refl _) | omega | (simp; omega) | (simp; done))))) (by omega) W 0 G1.out.1 G1.out.2).mono ?_
                rintro e w11 ⟨rfl, hb11⟩
                have R_n_11 : Row w11 (w.heap.size) [.int .i64 n0, .int .i64 n1, .slice (some ⟨bb, off, none⟩) n cap] := by (repeat' (first | (with_reducible assumption) | (with_reducible refine Row.new' _ _ _ (by first | rfl | (simp; done) | omega)) | (with_reducible refine Row.alloc ?_ _) | (with_reducible refine Row.drew ?_) | (with_reducible refine Row.drewN ?_ _) | (with_reducible refine Row.step ?_ (by with_reducible assumption)) | (with_reducible refine Row.set2' ?_ _ _; first | exact ⟨_, _, by with_reducible assumption⟩ | exact ⟨_, _, Row.alloc (by with_reducible assumption) _⟩ | exact ⟨_, _, Row.alloc (Row.alloc (by with_reducible assumption) _) _⟩) | (with_reducible refine Row.other ?_ (by first | omega | (simp; done) | (simp; omega)) _)))
                have c_n_0_11 := R_n_11.cell 0 rfl
                have c_n_1_11 := R_n_11.cell 1 rfl
                have c_n_2_11 := R_n_11.cell 2 rfl
                have l_n_11 := R_n_11.lt
                have R_x_11 : Row w11 (gx) [.int .i64 n0, .int .i64 (n1 + 1), .slice (some ⟨bb, off, none⟩) n cap] := by (repeat' (first | (with_reducible assumption) | (with_reducible refine Row.new' _ _ _ (by first | rfl | (simp; done) | omega)) | (with_reducible refine Row.alloc ?_ _) | (with_reducible refine Row.drew ?_) | (with_reducible refine Row.drewN ?_ _) | (with_reducible refine Row.step ?_ (by with_reducible assumption)) | (with_reducible refine Row.set2' ?_ _ _; first | exact ⟨_, _, by with_reducible assumption⟩ | exact ⟨_, _, Row.alloc (by with_reducible assumption) _⟩ | exact ⟨_, _, Row.alloc (Row.alloc (by with_reducible assumption) _) _⟩) | (with_reducible refine Row.other ?_ (by first | omega | (simp; done) | (simp; omega)) _)))
                have c_x_0_11 := R_x_11.cell 0 rfl
                have c_x_1_11 := R_x_11.cell 1 rfl
                have c_x_2_11 := R_x_11.cell 2 rfl
                have l_x_11 := R_x_11.lt
                have R_y_11 : Row w11 (gy) [.int .i64 n0, .int .i64 n1, .slice (some ⟨g, 0, none⟩) n cp] := by (repeat' (first | (with_reducible assumption) | (with_reducible refine Row.new' _ _ _ (by first | rfl | (simp; done) | omega)) | (with_reducible refine Row.alloc ?_ _) | (with_reducible refine Row.drew ?_) | (with_reducible refine Row.drewN ?_ _) | (with_reducible refine Row.step ?_ (by with_reducible assumption)) | (with_reducible refine Row.set2' ?_ _ _; first | exact ⟨_, _, by with_reducible assumption⟩ | exact ⟨_, _, Row.alloc (by with_reducible assumption) _⟩ | exact ⟨_, _, Row.alloc (Row.alloc (by with_reducible assumption) _) _⟩) | (with_reducible refine Row.other ?_ (by first | omega | (simp; done) | (simp; omega)) _)))
                have c_y_0_11 := R_y_11.cell 0 rfl
                have c_y_1_11 := R_y_11.cell 1 rfl
                have c_y_2_11 := R_y_11.cell 2 rfl
                have l_y_11 := R_y_11.lt
                have R_z_11 : Row w11 (gz) [.int .i64 (n0 + 1), .int .i64 n1, .slice (some ⟨bb, off, none⟩) n cap] := by (repeat' (first | (with_reducible assumption) | (with_reducible refine Row.new' _ _ _ (by first | rfl | (simp; done) | omega)) | (with_reducible refine Row.alloc ?_ _) | (with_reducible refine Row.drew ?_) | (with_reducible refine Row.drewN ?_ _) | (with_reducible refine Row.step ?_ (by with_reducible assumption)) | (with_reducible refine Row.set2' ?_ _ _; first | exact ⟨_, _, by with_reducible assumption⟩ | exact ⟨_, _, Row.alloc (by with_reducible assumption) _⟩ | exact ⟨_, _, Row.alloc (Row.alloc (by with_reducible assumption) _) _⟩) | (with_reducible refine Row.other ?_ (by first | omega | (simp; done) | (simp; omega)) _)))
                have c_z_0_11 := R_z_11.cell 0 rfl
                have c_z_1_11 := R_z_11.cell 1 rfl
                have c_z_2_11 := R_z_11.cell 2 rfl
                have l_z_11 := R_z_11.lt
                replace K := K.step (show Below w10.heap.size w10 w11 by (repeat' (first | (with_reducible exact Below.refl _ _) | (with_reducible assumption) | (with_reducible exact Bw.out (by with_reducible assumption)) | (with_reducible refine bw_alloc ?_ _) | (with_reducible refine bw_step ?_ (by with_reducible assumption)) | (with_reducible refine Below.alloc ?_ ?_ _) | (with_reducible refine Below.drew ?_) | (with_reducible refine below_drewN ?_ _) | (with_reducible refine Below.setCell ?_ ?_ _) | (with_reducible refine below_step ?_ (by with_reducible assumption) ?_) | (with_reducible exact Nat.le_refl _) | omega | (simp; omega) | (simp; done))))
                replace KG := KG.step (show Below w10.heap.size w10 w11 by (repeat' (first | (with_reducible exact Below.refl _ _) | (with_reducible assumption) | (with_reducible exact Bw.out (by with_reducible assumption)) | (with_reducible refine bw_alloc ?_ _) | (with_reducible refine bw_step ?_ (by with_reducible assumption)) | (with_reducible refine Below.alloc ?_ ?_ _) | (with_reducible refine Below.drew ?_) | (with_reducible refine below_drewN ?_ _) | (with_reducible refine Below.setCell ?_ ?_ _) | (with_reducible refine below_step ?_ (by with_reducible assumption) ?_) | (with_reducible exact Nat.le_refl _) | omega | (simp; omega) | (simp; done))))
                have HB11 : Below w.heap.size w w11 := by (repeat' (first | (with_reducible exact Below.refl _ _) | (with_reducible assumption) | (with_reducible exact Bw.out (by with_reducible assumption)) | (with_reducible refine bw_alloc ?_ _) | (with_reducible refine bw_step ?_ (by with_reducible assumption)) | (with_reducible refine Below.alloc ?_ ?_ _) | (with_reducible refine Below.drew ?_) | (with_reducible refine below_drewN ?_ _) | (with_reducible refine Below.setCell ?_ ?_ _) | (with_reducible refine below_step ?_ (by with_reducible assumption) ?_) | (with_reducible exact Nat.le_refl _) | omega | (simp; omega) | (simp; done)))
                clear R_n_10 c_n_0_10 c_n_1_10 c_n_2_10 R_x_10 c_x_0_10 c_x_1_10 c_x_2_10 R_y_10 c_y_0_10 c_y_1_10 c_y_2_10 R_z_10 c_z_0_10 c_z_1_10 c_z_2_10 hb10 HB10
                go_wp2_with fail
                refine (Walked_any n0 n1 ((m : Int) + 1) _ _ _ zs _ (K.step (by (repeat' (first | (with_reducible exact Below.refl _ _) | (with_reducible assumption) | (with_reducible exact Bw.out (by with_reducible assumption)) | (with_reducible refine bw_alloc ?_ _) | (with_reducible refine bw_step ?_ (by with_reducible assumption)) | (with_reducible refine Below.alloc ?_ ?_ _) | (with_reducible refine Below.drew ?_) | (with_reducible refine below_drewN ?_ _) | (with_reducible refine Below.setCell ?_ ?_ _) | (with_reducible refine below_step ?_ (by with_reducible assumption) ?_) | (with_reducible exact Nat.le_refl _) | omega | (simp; omega) | (simp; done))))) (by omega) A 0 G2.out.1 G2.out.2).mono ?_
                rintro e w12 ⟨rfl, hb12⟩
                have R_n_12 : Row w12 (w.heap.size) [.int .i64 n0, .int .i64 n1, .slice (some ⟨bb, off, none⟩) n cap] := by (repeat' (first | (with_reducible assumption) | (with_reducible refine Row.new' _ _ _ (by first | rfl | (simp; done) | omega)) | (with_reducible refine Row.alloc ?_ _) | (with_reducible refine Row.drew ?_) | (with_reducible refine Row.drewN ?_ _) | (with_reducible refine Row.step ?_ (by with_reducible assumption)) | (with_reducible refine Row.set2' ?_ _ _; first | exact ⟨_, _, by with_reducible assumption⟩ | exact ⟨_, _, Row.alloc (by with_reducible assumption) _⟩ | exact ⟨_, _, Row.alloc (Row.alloc (by with_reducible assumption) _) _⟩) | (with_reducible refine Row.other ?_ (by first | omega | (simp; done) | (simp; omega)) _)))
                have c_n_0_12 := R_n_12.cell 0 rfl
                have c_n_1_12 := R_n_12.cell 1 rfl
                have c_n_2_12 := R_n_12.cell 2 rfl
                have l_n_12 := R_n_12.lt
                have R_x_12 : Row w12 (gx) [.int .i64 n0, .int .i64 (n1 + 1), .slice (some ⟨bb, off, none⟩) n cap] := by (repeat' (first | (with_reducible assumption) | (with_reducible refine Row.new' _ _ _ (by first | rfl | (simp; done) | omega)) | (with_reducible refine Row.alloc ?_ _) | (with_reducible refine Row.drew ?_) | (with_reducible refine Row.drewN ?_ _) | (with_reducible refine Row.step ?_ (by with_reducible assumption)) | (with_reducible refine Row.set2' ?_ _ _; first | exact ⟨_, _, by with_reducible assumption⟩ | exact ⟨_, _, Row.alloc (by with_reducible assumption) _⟩ | exact ⟨_, _, Row.alloc (Row.alloc (by with_reducible assumption) _) _⟩) | (with_reducible refine Row.other ?_ (by first | omega | (simp; done) | (simp; omega)) _)))
                have c_x_0_12 := R_x_12.cell 0 rfl
                have c_x_1_12 := R_x_12.cell 1 rfl
                have c_x_2_12 := R_x_12.cell 2 rfl
                have l_x_12 := R_x_12.lt
                have R_y_12 : Row w12 (gy) [.int .i64 n0, .int .i64 n1, .slice (some ⟨g, 0, none⟩) n cp] := by (repeat' (first | (with_reducible assumption) | (with_reducible refine Row.new' _ _ _ (by first | rfl | (simp; done) | omega)) | (with_reducible refine Row.alloc ?_ _) | (with_reducible refine Row.drew ?_) | (with_reducible refine Row.drewN ?_ _) | (with_reducible refine Row.step ?_ (by with_reducible assumption)) | (with_reducible refine Row.set2' ?_ _ _; first | exact ⟨_, _, by with_reducible assumption⟩ | exact ⟨_, _, Row.alloc (by with_reducible assumption) _⟩ | exact ⟨_, _, Row.alloc (Row.alloc (by with_reducible assumption) _) _⟩) | (with_reducible refine Row.other ?_ (by first | omega | (simp; done) | (simp; omega)) _)))
                have c_y_0_12 := R_y_12.cell 0 rfl
                have c_y_1_12 := R_y_12.cell 1 rfl
                have c_y_2_12 := R_y_12.cell 2 rfl
                have l_y_12 := R_y_12.lt
                have R_z_12 : Row w12 (gz) [.int .i64 (n0 + 1), .int .i64 n1, .slice (some ⟨bb, off, none⟩) n cap] := by (repeat' (first | (with_reducible assumption) | (with_reducible refine Row.new' _ _ _ (by first | rfl | (simp; done) | omega)) | (with_reducible refine Row.alloc ?_ _) | (with_reducible refine Row.drew ?_) | (with_reducible refine Row.drewN ?_ _) | (with_reducible refine Row.step ?_ (by with_reducible assumption)) | (with_reducible refine Row.set2' ?_ _ _; first | exact ⟨_, _, by with_reducible assumption⟩ | exact ⟨_, _, Row.alloc (by with_reducible assumption) _⟩ | exact ⟨_, _, Row.alloc (Row.alloc (by with_reducible assumption) _) _⟩) | (with_reducible refine Row.other ?_ (by first | omega | (simp; done) | (simp; omega)) _)))
                have c_z_0_12 := R_z_12.cell 0 rfl
                have c_z_1_12 := R_z_12.cell 1 rfl
                have c_z_2_12 := R_z_12.cell 2 rfl
                have l_z_12 := R_z_12.lt
                replace K := K.step (show Below w11.heap.size w11 w12 by (repeat' (first | (with_reducible exact Below.refl _ _) | (with_reducible assumption) | (with_reducible exact Bw.out (by with_reducible assumption)) | (with_reducible refine bw_alloc ?_ _) | (with_reducible refine bw_step ?_ (by with_reducible assumption)) | (with_reducible refine Below.alloc ?_ ?_ _) | (with_reducible refine Below.drew ?_) | (with_reducible refine below_drewN ?_ _) | (with_reducible refine Below.setCell ?_ ?_ _) | (with_reducible refine below_step ?_ (by with_reducible assumption) ?_) | (with_reducible exact Nat.le_refl _) | omega | (simp; omega) | (simp; done))))
                replace KG := KG.step (show Below w11.heap.size w11 w12 by (repeat' (first | (with_reducible exact Below.refl _ _) | (with_reducible assumption) | (with_reducible exact Bw.out (by with_reducible assumption)) | (with_reducible refine bw_alloc ?_ _) | (with_reducible refine bw_step ?_ (by with_reducible assumption)) | (with_reducible refine Below.alloc ?_ ?_ _) | (with_reducible refine Below.drew ?_) | (with_reducible refine below_drewN ?_ _) | (with_reducible refine Below.setCell ?_ ?_ _) | (with_reducible refine below_step ?_ (by with_reducible assumption) ?_) | (with_reducible exact Nat.le_refl _) | omega | (simp; omega) | (simp; done))))
                have HB12 : Below w.heap.size w w12 := by (repeat' (first | (with_reducible exact Below.refl _ _) | (with_reducible assumption) | (with_reducible exact Bw.out (by with_reducible assumption)) | (with_reducible refine bw_alloc ?_ _) | (with_reducible refine bw_step ?_ (by with_reducible assumption)) | (with_reducible refine Below.alloc ?_ ?_ _) | (with_reducible refine Below.drew ?_) | (with_reducible refine below_drewN ?_ _) | (with_reducible refine Below.setCell ?_ ?_ _) | (with_reducible refine below_step ?_ (by with_reducible assumption) ?_) | (with_reducible exact Nat.le_refl _) | omega | (simp; omega) | (simp; done)))
                clear R_n_11 c_n_0_11 c_n_1_11 c_n_2_11 R_x_11 c_x_0_11 c_x_1_11 c_x_2_11 R_y_11 c_y_0_11 c_y_1_11 c_y_2_11 R_z_11 c_z_0_11 c_z_1_11 c_z_2_11 hb11 HB11
                go_wp2_with fail
                refine (Walked_any n0 (n1 + 1) m _ _ _ zs _ (K.step (by (repeat' (first | (with_reducible exact Below.refl _ _) | (with_reducible assumption) | (with_reducible exact Bw.out (by with_reducible assumption)) | (with_reducible refine bw_alloc ?_ _) | (with_reducible refine bw_step ?_ (by with_reducible assumption)) | (with_reducible refine Below.alloc ?_ ?_ _) | (with_reducible refine Below.drew ?_) | (with_reducible refine below_drewN ?_ _) | (with_reducible refine Below.setCell ?_ ?_ _) | (with_reducible refine below_step ?_ (by with_reducible assumption) ?_) | (with_reducible exact Nat.le_refl _) | omega | (simp; omega) | (simp; done))))) (by omega) B 0 G3.out.1 G3.out.2).mono ?_
                rintro e w13 ⟨rfl, hb13⟩
                have R_n_13 : Row w13 (w.heap.size) [.int .i64 n0, .int .i64 n1, .slice (some ⟨bb, off, none⟩) n cap] := by (repeat' (first | (with_reducible assumption) | (with_reducible refine Row.new' _ _ _ (by first | rfl | (simp; done) | omega)) | (with_reducible refine Row.alloc ?_ _) | (with_reducible refine Row.drew ?_) | (with_reducible refine Row.drewN ?_ _) | (with_reducible refine Row.step ?_ (by with_reducible assumption)) | (with_reducible refine Row.set2' ?_ _ _; first | exact ⟨_, _, by with_reducible assumption⟩ | exact ⟨_, _, Row.alloc (by with_reducible assumption) _⟩ | exact ⟨_, _, Row.alloc (Row.alloc (by with_reducible assumption) _) _⟩) | (with_reducible refine Row.other ?_ (by first | omega | (simp; done) | (simp; omega)) _)))
                have c_n_0_13 := R_n_13.cell 0 rfl
                have c_n_1_13 := R_n_13.cell 1 rfl
                have c_n_2_13 := R_n_13.cell 2 rfl
                have l_n_13 := R_n_13.lt
                have R_x_13 : Row w13 (gx) [.int .i64 n0, .int .i64 (n1 + 1), .slice (some ⟨bb, off, none⟩) n cap] := by (repeat' (first | (with_reducible assumption) | (with_reducible refine Row.new' _ _ _ (by first | rfl | (simp; done) | omega)) | (with_reducible refine Row.alloc ?_ _) | (with_reducible refine Row.drew ?_) | (with_reducible refine Row.drewN ?_ _) | (with_reducible refine Row.step ?_ (by with_reducible assumption)) | (with_reducible refine Row.set2' ?_ _ _; first | exact ⟨_, _, by with_reducible assumption⟩ | exact ⟨_, _, Row.alloc (by with_reducible assumption) _⟩ | exact ⟨_, _, Row.alloc (Row.alloc (by with_reducible assumption) _) _⟩) | (with_reducible refine Row.other ?_ (by first | omega | (simp; done) | (simp; omega)) _)))
                have c_x_0_13 := R_x_13.cell 0 rfl
                have c_x_1_13 := R_x_13.cell 1 rfl
                have c_x_2_13 := R_x_13.cell 2 rfl
                have l_x_13 := R_x_13.lt
                have R_y_13 : Row w13 (gy) [.int .i64 n0, .int .i64 n1, .slice (some ⟨g, 0, none⟩) n cp] := by (repeat' (first | (with_reducible assumption) | (with_reducible refine Row.new' _ _ _ (by first | rfl | (simp; done) | omega)) | (with_reducible refine Row.alloc ?_ _) | (with_reducible refine Row.drew ?_) | (with_reducible refine Row.drewN ?_ _) | (with_reducible refine Row.step ?_ (by with_reducible assumption)) | (with_reducible refine Row.set2' ?_ _ _; first | exact ⟨_, _, by with_reducible assumption⟩ | exact ⟨_, _, Row.alloc (by with_reducible assumption) _⟩ | exact ⟨_, _, Row.alloc (Row.alloc (by with_reducible assumption) _) _⟩) | (with_reducible refine Row.other ?_ (by first | omega | (simp; done) | (simp; omega)) _)))
                have c_y_0_13 := R_y_13.cell 0 rfl
                have c_y_1_13 := R_y_13.cell 1 rfl
                have c_y_2_13 := R_y_13.cell 2 rfl
                have l_y_13 := R_y_13.lt
                have R_z_13 : Row w13 (gz) [.int .i64 (n0 + 1), .int .i64 n1, .slice (some ⟨bb, off, none⟩) n cap] := by (repeat' (first | (with_reducible assumption) | (with_reducible refine Row.new' _ _ _ (by first | rfl | (simp; done) | omega)) | (with_reducible refine Row.alloc ?_ _) | (with_reducible refine Row.drew ?_) | (with_reducible refine Row.drewN ?_ _) | (with_reducible refine Row.step ?_ (by with_reducible assumption)) | (with_reducible refine Row.set2' ?_ _ _; first | exact ⟨_, _, by with_reducible assumption⟩ | exact ⟨_, _, Row.alloc (by with_reducible assumption) _⟩ | exact ⟨_, _, Row.alloc (Row.alloc (by with_reducible assumption) _) _⟩) | (with_reducible refine Row.other ?_ (by first | omega | (simp; done) | (simp; omega)) _)))
                have c_z_0_13 := R_z_13.cell 0 rfl
                have c_z_1_13 := R_z_13.cell 1 rfl
                have c_z_2_13 := R_z_13.cell 2 rfl
                have l_z_13 := R_z_13.lt
                replace K := K.step (show Below w12.heap.size w12 w13 by (repeat' (first | (with_reducible exact Below.refl _ _) | (with_reducible assumption) | (with_reducible exact Bw.out (by with_reducible assumption)) | (with_reducible refine bw_alloc ?_ _) | (with_reducible refine bw_step ?_ (by with_reducible assumption)) | (with_reducible refine Below.alloc ?_ ?_ _) | (with_reducible refine Below.drew ?_) | (with_reducible refine below_drewN ?_ _) | (with_reducible refine Below.setCell ?_ ?_ _) | (with_reducible refine below_step ?_ (by with_reducible assumption) ?_) | (with_reducible exact Nat.le_refl _) | omega | (simp; omega) | (simp; done))))
                replace KG := KG.step (show Below w12.heap.size w12 w13 by (repeat' (first | (with_reducible exact Below.refl _ _) | (with_reducible assumption) | (with_reducible exact Bw.out (by with_reducible assumption)) | (with_reducible refine bw_alloc ?_ _) | (with_reducible refine bw_step ?_ (by with_reducible assumption)) | (with_reducible refine Below.alloc ?_ ?_ _) | (with_reducible refine Below.drew ?_) | (with_reducible refine below_drewN ?_ _) | (with_reducible refine Below.setCell ?_ ?_ _) | (with_reducible refine below_step ?_ (by with_reducible assumption) ?_) | (with_reducible exact Nat.le_refl _) | omega | (simp; omega) | (simp; done))))
                have HB13 : Below w.heap.size w w13 := by (repeat' (first | (with_reducible exact Below.refl _ _) | (with_reducible assumption) | (with_reducible exact Bw.out (by with_reducible assumption)) | (with_reducible refine bw_alloc ?_ _) | (with_reducible refine bw_step ?_ (by with_reducible assumption)) | (with_reducible refine Below.alloc ?_ ?_ _) | (with_reducible refine Below.drew ?_) | (with_reducible refine below_drewN ?_ _) | (with_reducible refine Below.setCell ?_ ?_ _) | (with_reducible refine below_step ?_ (by with_reducible assumption) ?_) | (with_reducible exact Nat.le_refl _) | omega | (simp; omega) | (simp; done)))
                clear R_n_12 c_n_0_12 c_n_1_12 c_n_2_12 R_x_12 c_x_0_12 c_x_1_12 c_x_2_12 R_y_12 c_y_0_12 c_y_1_12 c_y_2_12 R_z_12 c_z_0_12 c_z_1_12 c_z_2_12 hb12 HB12
                go_wp2_with fail
                refine (Walked_any n0 n1 m _ _ _ (zs.set k (z + 1)) _ (KG.step (by (repeat' (first | (with_reducible exact Below.refl _ _) | (with_reducible assumption) | (with_reducible exact Bw.out (by with_reducible assumption)) | (with_reducible refine bw_alloc ?_ _) | (with_reducible refine bw_step ?_ (by with_reducible assumption)) | (with_reducible refine Below.alloc ?_ ?_ _) | (with_reducible refine Below.drew ?_) | (with_reducible refine below_drewN ?_ _) | (with_reducible refine Below.setCell ?_ ?_ _) | (with_reducible refine below_step ?_ (by with_reducible assumption) ?_) | (with_reducible exact Nat.le_refl _) | omega | (simp; omega) | (simp; done))))) (by omega) C 0 G4.out.1 G4.out.2).mono ?_
                rintro e w14 ⟨rfl, hb14⟩
                have R_n_14 : Row w14 (w.heap.size) [.int .i64 n0, .int .i64 n1, .slice (some ⟨bb, off, none⟩) n cap] := by (repeat' (first | (with_reducible assumption) | (with_reducible refine Row.new' _ _ _ (by first | rfl | (simp; done) | omega)) | (with_reducible refine Row.alloc ?_ _) | (with_reducible refine Row.drew ?_) | (with_reducible refine Row.drewN ?_ _) | (with_reducible refine Row.step ?_ (by with_reducible assumption)) | (with_reducible refine Row.set2' ?_ _ _; first | exact ⟨_, _, by with_reducible assumption⟩ | exact ⟨_, _, Row.alloc (by with_reducible assumption) _⟩ | exact ⟨_, _, Row.alloc (Row.alloc (by with_reducible assumption) _) _⟩) | (with_reducible refine Row.other ?_ (by first | omega | (simp; done) | (simp; omega)) _)))
                have c_n_0_14 := R_n_14.cell 0 rfl
                have c_n_1_14 := R_n_14.cell 1 rfl
                have c_n_2_14 := R_n_14.cell 2 rfl
                have l_n_14 := R_n_14.lt
                have R_x_14 : Row w14 (gx) [.int .i64 n0, .int .i64 (n1 + 1), .slice (some ⟨bb, off, none⟩) n cap] := by (repeat' (first | (with_reducible assumption) | (with_reducible refine Row.new' _ _ _ (by first | rfl | (simp; done) | omega)) | (with_reducible refine Row.alloc ?_ _) | (with_reducible refine Row.drew ?_) | (with_reducible refine Row.drewN ?_ _) | (with_reducible refine Row.step ?_ (by with_reducible assumption)) | (with_reducible refine Row.set2' ?_ _ _; first | exact ⟨_, _, by with_reducible assumption⟩ | exact ⟨_, _, Row.alloc (by with_reducible assumption) _⟩ | exact ⟨_, _, Row.alloc (Row.alloc (by with_reducible assumption) _) _⟩) | (with_reducible refine Row.other ?_ (by first | omega | (simp; done) | (simp; omega)) _)))
                have c_x_0_14 := R_x_14.cell 0 rfl
                have c_x_1_14 := R_x_14.cell 1 rfl
                have c_x_2_14 := R_x_14.cell 2 rfl
                have l_x_14 := R_x_14.lt
                have R_y_14 : Row w14 (gy) [.int .i64 n0, .int .i64 n1, .slice (some ⟨g, 0, none⟩) n cp] := by (repeat' (first | (with_reducible assumption) | (with_reducible refine Row.new' _ _ _ (by first | rfl | (simp; done) | omega)) | (with_reducible refine Row.alloc ?_ _) | (with_reducible refine Row.drew ?_) | (with_reducible refine Row.drewN ?_ _) | (with_reducible refine Row.step ?_ (by with_reducible assumption)) | (with_reducible refine Row.set2' ?_ _ _; first | exact ⟨_, _, by with_reducible assumption⟩ | exact ⟨_, _, Row.alloc (by with_reducible assumption) _⟩ | exact ⟨_, _, Row.alloc (Row.alloc (by with_reducible assumption) _) _⟩) | (with_reducible refine Row.other ?_ (by first | omega | (simp; done) | (simp; omega)) _)))
                have c_y_0_14 := R_y_14.cell 0 rfl
                have c_y_1_14 := R_y_14.cell 1 rfl
                have c_y_2_14 := R_y_14.cell 2 rfl
                have l_y_14 := R_y_14.lt
                have R_z_14 : Row w14 (gz) [.int .i64 (n0 + 1), .int .i64 n1, .slice (some ⟨bb, off, none⟩) n cap] := by (repeat' (first | (with_reducible assumption) | (with_reducible refine Row.new' _ _ _ (by first | rfl | (simp; done) | omega)) | (with_reducible refine Row.alloc ?_ _) | (with_reducible refine Row.drew ?_) | (with_reducible refine Row.drewN ?_ _) | (with_reducible refine Row.step ?_ (by with_reducible assumption)) | (with_reducible refine Row.set2' ?_ _ _; first | exact ⟨_, _, by with_reducible assumption⟩ | exact ⟨_, _, Row.alloc (by with_reducible assumption) _⟩ | exact ⟨_, _, Row.alloc (Row.alloc (by with_reducible assumption) _) _⟩) | (with_reducible refine Row.other ?_ (by first | omega | (simp; done) | (simp; omega)) _)))
                have c_z_0_14 := R_z_14.cell 0 rfl
                have c_z_1_14 := R_z_14.cell 1 rfl
                have c_z_2_14 := R_z_14.cell 2 rfl
                have l_z_14 := R_z_14.lt
                replace K := K.step (show Below w13.heap.size w13 w14 by (repeat' (first | (with_reducible exact Below.refl _ _) | (with_reducible assumption) | (with_reducible exact Bw.out (by with_reducible assumption)) | (with_reducible refine bw_alloc ?_ _) | (with_reducible refine bw_step ?_ (by with_reducible assumption)) | (with_reducible refine Below.alloc ?_ ?_ _) | (with_reducible refine Below.drew ?_) | (with_reducible refine below_drewN ?_ _) | (with_reducible refine Below.setCell ?_ ?_ _) | (with_reducible refine below_step ?_ (by with_reducible assumption) ?_) | (with_reducible exact Nat.le_refl _) | omega | (simp; omega) | (simp; done))))
                replace KG := KG.step (show Below w13.heap.size w13 w14 by (repeat' (first | (with_reducible exact Below.refl _ _) | (with_reducible assumption) | (with_reducible exact Bw.out (by with_reducible assumption)) | (with_reducible refine bw_alloc ?_ _) | (with_reducible refine bw_step ?_ (by with_reducible assumption)) | (with_reducible refine Below.alloc ?_ ?_ _) | (with_reducible refine Below.drew ?_) | (with_reducible refine below_drewN ?_ _) | (with_reducible refine Below.setCell ?_ ?_ _) | (with_reducible refine below_step ?_ (by with_reducible assumption) ?_) | (with_reducible exact Nat.le_refl _) | omega | (simp; omega) | (simp; done))))
                have HB14 : Below w.heap.size w w14 := by (repeat' (first | (with_reducible exact Below.refl _ _) | (with_reducible assumption) | (with_reducible exact Bw.out (by with_reducible assumption)) | (with_reducible refine bw_alloc ?_ _) | (with_reducible refine bw_step ?_ (by with_reducible assumption)) | (with_reducible refine Below.alloc ?_ ?_ _) | (with_reducible refine Below.drew ?_) | (with_reducible refine below_drewN ?_ _) | (with_reducible refine Below.setCell ?_ ?_ _) | (with_reducible refine below_step ?_ (by with_reducible assumption) ?_) | (with_reducible exact Nat.le_refl _) | omega | (simp; omega) | (simp; done)))
                clear R_n_13 c_n_0_13 c_n_1_13 c_n_2_13 R_x_13 c_x_0_13 c_x_1_13 c_x_2_13 R_y_13 c_y_0_13 c_y_1_13 c_y_2_13 R_z_13 c_z_0_13 c_z_1_13 c_z_2_13 hb13 HB13
                go_wp2_with fail
                refine (Walked_any (n0 + 1) n1 m _ _ _ zs _ (K.step (by (repeat' (first | (with_reducible exact Below.refl _ _) | (with_reducible assumption) | (with_reducible exact Bw.out (by with_reducible assumption)) | (with_reducible refine bw_alloc ?_ _) | (with_reducible refine bw_step ?_ (by with_reducible assumption)) | (with_reducible refine Below.alloc ?_ ?_ _) | (with_reducible refine Below.drew ?_) | (with_reducible refine below_drewN ?_ _) | (with_reducible refine Below.setCell ?_ ?_ _) | (with_reducible refine below_step ?_ (by with_reducible assumption) ?_) | (with_reducible exact Nat.le_refl _) | omega | (simp; omega) | (simp; done))))) (by omega) D 0 G5.out.1 G5.out.2).mono ?_
                rintro e w15 ⟨rfl, hb15⟩
                have R_n_15 : Row w15 (w.heap.size) [.int .i64 n0, .int .i64 n1, .slice (some ⟨bb, off, none⟩) n cap] := by (repeat' (first | (with_reducible assumption) | (with_reducible refine Row.new' _ _ _ (by first | rfl | (simp; done) | omega)) | (with_reducible refine Row.alloc ?_ _) | (with_reducible refine Row.drew ?_) | (with_reducible refine Row.drewN ?_ _) | (with_reducible refine Row.step ?_ (by with_reducible assumption)) | (with_reducible refine Row.set2' ?_ _ _; first | exact ⟨_, _, by with_reducible assumption⟩ | exact ⟨_, _, Row.alloc (by with_reducible assumption) _⟩ | exact ⟨_, _, Row.alloc (Row.alloc (by with_reducible assumption) _) _⟩) | (with_reducible refine Row.other ?_ (by first | omega | (simp; done) | (simp; omega)) _)))
                have c_n_0_15 := R_n_15.cell 0 rfl
                have c_n_1_15 := R_n_15.cell 1 rfl
                have c_n_2_15 := R_n_15.cell 2 rfl
                have l_n_15 := R_n_15.lt
                have R_x_15 : Row w15 (gx) [.int .i64 n0, .int .i64 (n1 + 1), .slice (some ⟨bb, off, none⟩) n cap] := by (repeat' (first | (with_reducible assumption) | (with_reducible refine Row.new' _ _ _ (by first | rfl | (simp; done) | omega)) | (with_reducible refine Row.alloc ?_ _) | (with_reducible refine Row.drew ?_) | (with_reducible refine Row.drewN ?_ _) | (with_reducible refine Row.step ?_ (by with_reducible assumption)) | (with_reducible refine Row.set2' ?_ _ _; first | exact ⟨_, _, by with_reducible assumption⟩ | exact ⟨_, _, Row.alloc (by with_reducible assumption) _⟩ | exact ⟨_, _, Row.alloc (Row.alloc (by with_reducible assumption) _) _⟩) | (with_reducible refine Row.other ?_ (by first | omega | (simp; done) | (simp; omega)) _)))
                have c_x_0_15 := R_x_15.cell 0 rfl
                have c_x_1_15 := R_x_15.cell 1 rfl
                have c_x_2_15 := R_x_15.cell 2 rfl
                have l_x_15 := R_x_15.lt
                have R_y_15 : Row w15 (gy) [.int .i64 n0, .int .i64 n1, .slice (some ⟨g, 0, none⟩) n cp] := by (repeat' (first | (with_reducible assumption) | (with_reducible refine Row.new' _ _ _ (by first | rfl | (simp; done) | omega)) | (with_reducible refine Row.alloc ?_ _) | (with_reducible refine Row.drew ?_) | (with_reducible refine Row.drewN ?_ _) | (with_reducible refine Row.step ?_ (by with_reducible assumption)) | (with_reducible refine Row.set2' ?_ _ _; first | exact ⟨_, _, by with_reducible assumption⟩ | exact ⟨_, _, Row.alloc (by with_reducible assumption) _⟩ | exact ⟨_, _, Row.alloc (Row.alloc (by with_reducible assumption) _) _⟩) | (with_reducible refine Row.other ?_ (by first | omega | (simp; done) | (simp; omega)) _)))
                have c_y_0_15 := R_y_15.cell 0 rfl
                have c_y_1_15 := R_y_15.cell 1 rfl
                have c_y_2_15 := R_y_15.cell 2 rfl
                have l_y_15 := R_y_15.lt
                have R_z_15 : Row w15 (gz) [.int .i64 (n0 + 1), .int .i64 n1, .slice (some ⟨bb, off, none⟩) n cap] := by (repeat' (first | (with_reducible assumption) | (with_reducible refine Row.new' _ _ _ (by first | rfl | (simp; done) | omega)) | (with_reducible refine Row.alloc ?_ _) | (with_reducible refine Row.drew ?_) | (with_reducible refine Row.drewN ?_ _) | (with_reducible refine Row.step ?_ (by with_reducible assumption)) | (with_reducible refine Row.set2' ?_ _ _; first | exact ⟨_, _, by with_reducible assumption⟩ | exact ⟨_, _, Row.alloc (by with_reducible assumption) _⟩ | exact ⟨_, _, Row.alloc (Row.alloc (by with_reducible assumption) _) _⟩) | (with_reducible refine Row.other ?_ (by first | omega | (simp; done) | (simp; omega)) _)))
                have c_z_0_15 := R_z_15.cell 0 rfl
                have c_z_1_15 := R_z_15.cell 1 rfl
                have c_z_2_15 := R_z_15.cell 2 rfl
                have l_z_15 := R_z_15.lt
                replace K := K.step (show Below w14.heap.size w14 w15 by (repeat' (first | (with_reducible exact Below.refl _ _) | (with_reducible assumption) | (with_reducible exact Bw.out (by with_reducible assumption)) | (with_reducible refine bw_alloc ?_ _) | (with_reducible refine bw_step ?_ (by with_reducible assumption)) | (with_reducible refine Below.alloc ?_ ?_ _) | (with_reducible refine Below.drew ?_) | (with_reducible refine below_drewN ?_ _) | (with_reducible refine Below.setCell ?_ ?_ _) | (with_reducible refine below_step ?_ (by with_reducible assumption) ?_) | (with_reducible exact Nat.le_refl _) | omega | (simp; omega) | (simp; done))))
                replace KG := KG.step (show Below w14.heap.size w14 w15 by (repeat' (first | (with_reducible exact Below.refl _ _) | (with_reducible assumption) | (with_reducible exact Bw.out (by with_reducible assumption)) | (with_reducible refine bw_alloc ?_ _) | (with_reducible refine bw_step ?_ (by with_reducible assumption)) | (with_reducible refine Below.alloc ?_ ?_ _) | (with_reducible refine Below.drew ?_) | (with_reducible refine below_drewN ?_ _) | (with_reducible refine Below.setCell ?_ ?_ _) | (with_reducible refine below_step ?_ (by with_reducible assumption) ?_) | (with_reducible exact Nat.le_refl _) | omega | (simp; omega) | (simp; done))))
                have HB15 : Below w.heap.size w w15 := by (repeat' (first | (with_reducible exact Below.refl _ _) | (with_reducible assumption) | (with_reducible exact Bw.out (by with_reducible assumption)) | (with_reducible refine bw_alloc ?_ _) | (with_reducible refine bw_step ?_ (by with_reducible assumption)) | (with_reducible refine Below.alloc ?_ ?_ _) | (with_reducible refine Below.drew ?_) | (with_reducible refine below_drewN ?_ _) | (with_reducible refine Below.setCell ?_ ?_ _) | (with_reducible refine below_step ?_ (by with_reducible assumption) ?_) | (with_reducible exact Nat.le_refl _) | omega | (simp; omega) | (simp; done)))
                clear R_n_14 c_n_0_14 c_n_1_14 c_n_2_14 R_x_14 c_x_0_14 c_x_1_14 c_x_2_14 R_y_14 c_y_0_14 c_y_1_14 c_y_2_14 R_z_14 c_z_0_14 c_z_1_14 c_z_2_14 hb14 HB14
                go_wp2_with fail
                go_ret
                refine ⟨(by first | rfl | exact ret_bool (by first | rfl | (simp; done) | (simp; omega))), ?_⟩
                (repeat' (first | (with_reducible exact Below.refl _ _) | (with_reducible assumption) | (with_reducible exact Bw.out (by with_reducible assumption)) | (with_reducible refine bw_alloc ?_ _) | (with_reducible refine bw_step ?_ (by with_reducible assumption)) | (with_reducible refine Below.alloc ?_ ?_ _) | (with_reducible refine Below.drew ?_) | (with_reducible refine below_drewN ?_ _) | (with_reducible refine Below.setCell ?_ ?_ _) | (with_reducible refine below_step ?_ (by with_reducible assumption) ?_) | (with_reducible exact Nat.le_refl _) | omega | (simp; omega) | (simp; done)))
              · rw [inB_false (by omega)]
                go_wp2_with fail
                go_ret
                refine ⟨(by first | rfl | exact ret_bool (by first | rfl | (simp; done) | (simp; omega))), ?_⟩
                (repeat' (first | (with_reducible exact Below.refl _ _) | (with_reducible assumption) | (with_reducible exact Bw.out (by with_reducible assumption)) | (with_reducible refine bw_alloc ?_ _) | (with_reducible refine bw_step ?_ (by with_reducible assumption)) | (with_reducible refine Below.alloc ?_ ?_ _) | (with_reducible refine Below.drew ?_) | (with_reducible refine below_drewN ?_ _) | (with_reducible refine Below.setCell ?_ ?_ _) | (with_reducible refine below_step ?_ (by with_reducible assumption) ?_) | (with_reducible exact Nat.le_refl _) | omega | (simp; omega) | (simp; done)))


set_option maxRecDepth 100000 in
theorem worstGrows_lifted (os : Os) (started : os.Started) (H : Type) (enc : TypeId × Value → H) :
    ReturnsInHanded {} Try.checked os 4 .any (Rows.worstGrowsSpec.pre6 enc Try.prog Try.f4 Rows.worstGrowsRow.domain false) (Rows.worstGrowsSpec.post enc Try.prog Try.f4 false true false false) := by
  refine returnsInHanded_of_change (C := Try.checked) own started (by kernel_rfl) Try.func4
    (ChangeSpec.witness6 (enc := enc) (C := Try.checked) false ⟨#[], #[.agg #[.int .i64 0, .int .i64 0, .slice none 0 0], .int .i64 0, .int .u8 0], []⟩ 8 (by kernel_rfl) (by kernel_rfl) (by kernel_rfl) (by kernel_rfl)) ?_
  intro W base args ds gs before hval0 hW _ _
  have hval : ∀ (j : Nat) t v, Try.f4.params[j]? = some t → args[j]? = some v → Value.okWide Try.prog W .any base t v := hval0
  have hW' := hW
  obtain ⟨p, q, hA0, hV, rfl, hfz, hnd⟩ := hW
  obtain ⟨rfl, rfl⟩ := trodVars_none hV
  have hA : DataW.TrodAll enc Try.prog W 0 (fun _ => true) true Try.f4.params.toList args.toList ds p := hA0
  rw [Try.params4] at hA hval
  obtain ⟨v0, vs0, d0, ds0, p0, q0, hargs, rfl, rfl, h0, r0⟩ := trodAll_cons hA
  obtain ⟨v1, vs1, d1, ds1, p1, q1, rfl, rfl, rfl, h1, r1⟩ := trodAll_cons r0
  obtain ⟨v2, vs2, d2, ds2, p2, q2, rfl, rfl, rfl, h2, r2⟩ := trodAll_cons r1
  obtain ⟨rfl, rfl, rfl⟩ := trodAll_nil r2
  obtain rfl : args = #[v0, v1, v2] := by cases args; simp_all
  obtain ⟨c00, c01, v_n, y00, y01, y02, m0, rfl, rfl, rfl, hy00, hy01, hy02⟩ := Go.Joins.open_agg3 Try.underlying30 (by kernel_rfl) (by kernel_rfl) (hval 0 30 v0 rfl rfl) h0
  obtain ⟨n0, e00, rfl, wn0⟩ := DataW.trod_int Try.underlying3 hy00
  simp only [List.cons.injEq, and_true] at e00
  subst e00
  obtain ⟨n1, e01, rfl, wn1⟩ := DataW.trod_int Try.underlying3 hy01
  simp only [List.cons.injEq, and_true] at e01
  subst e01
  obtain ⟨zs_n, hs_n, wf_n⟩ := slv_of_ints hy02
  obtain ⟨c, rfl, rfl, rfl, wc⟩ := open_int Try.underlying3 (hval 1 3 v1 rfl rfl) h1
  obtain ⟨q, rfl, rfl, rfl, wq⟩ := open_int Try.underlying5 (hval 2 5 v2 rfl rfl) h2
  clear hA0 hval0
  refine (wgrow_walk n0 n1 v_n zs_n c q wn0 wn1 wf_n wc wq W hs_n).mono fun e W' ⟨he, hb⟩ => ?_
  subst he
  exact ⟨_, rfl, law_post (B := 4) laidOut (by rw [Try.params4]; simp only [List.mem_cons, List.not_mem_nil, or_false, forall_eq_or_imp, forall_eq]; first | exact readable_worstGrows | (repeat' apply And.intro) <;> first | exact of_decide_eq_true (by kernel_rfl) | kernel_rfl) rfl Try.underlying4 rfl rfl hW' hb⟩

theorem worstGrows_over : Rows.worstGrowsRow.holds Try.pinned (OpenSpec.ofChange Rows.worstGrowsSpec) :=
  OpenClaim.holds_of_wide 4 Try.f4 rfl rfl rfl rfl rfl rfl rfl ⟨rfl, rfl, rfl, rfl, rfl⟩ rfl rfl rfl rfl rfl (by kernel_rfl) Try.func4 (by kernel_rfl)
    (of_decide_eq_true (by kernel_rfl)) (by unfold Func.isWrapper; first | (rw [if_pos (by decide +kernel)]; kernel_rfl) | (rw [if_neg (by decide +kernel)]; exact ⟨rfl, rfl⟩))
    (fun os started H enc _ => worstGrows_lifted os started H enc)

theorem worstGrows_holds : Rows.WorstGrowsSaid := worstGrows_over
#print axioms worstGrows_holds
end Go.Proofs.Ytmjckadaiikapaa
