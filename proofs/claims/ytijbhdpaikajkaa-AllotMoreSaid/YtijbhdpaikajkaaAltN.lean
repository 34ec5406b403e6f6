/-
  AllotMore: with more rooms, or a greater promise, no channel gets less; with a greater cut, or more sold, no channel gets more.
  No condition: for every input.
-/
import Derived.Test.YtijbhdpaikajkaaAltL
import Derived.Test.YtijbhdpaikajkaaRow3
import Derived.Deep.DeepCutAuto
namespace Go.Proofs.Ytijbhdpaikajkaa
set_option linter.unusedSimpArgs false
set_option linter.unusedVariables false
open Go.ChangeShapes Go.WideShapes Go.ChangeAt Go.RowKit

theorem Row.set3' {w : World} {b : Nat} (h : ∃ x0 x1 x2, Row w b [x0, x1, x2]) (v0 v1 v2 : Value) : Row (((w.setCell ⟨b, 0, none⟩ v0).setCell ⟨b, 1, none⟩ v1).setCell ⟨b, 2, none⟩ v2) b [v0, v1, v2] := by
  obtain ⟨x0, x1, x2, h⟩ := h
  exact ((h.putAt 0 v0 rfl).putAt 1 v1 rfl).putAt 2 v2 rfl
theorem SlC.putN {w : World} {a : Option Addr} {n cap q i : Nat} {zs : List Int} {v : Value} (h : SlC w a n cap zs) (hq : ∀ g o, a = some ⟨g, o, none⟩ → 0 < n → g ≠ q) : SlC (w.setCell ⟨q, i, none⟩ v) a n cap zs := by
  obtain ⟨h1, h4, h5, h6⟩ := h.v.parts
  refine ⟨h1, a, cap, by rw [h1], ?_, by omega, h6⟩
  rw [h1]
  refine ⟨h1, fun j hj => ?_⟩
  obtain ⟨b, off, e, hc⟩ := h4.2 j hj
  refine ⟨b, off, e, ?_⟩
  rw [← hc]
  exact World.cell?_of_block (Below.heap_setCell _ _ _ _ (hq b off e (by omega)))
theorem SlC.ltN {w : World} {a : Option Addr} {n cap : Nat} {zs : List Int} (h : SlC w a n cap zs) {g o : Nat} (hg : a = some ⟨g, o, none⟩) (h0 : 0 < n) : g < w.heap.size := by
  obtain ⟨b, off, e, hc⟩ := h.sl.2 0 h0
  rw [hg] at e
  cases e
  exact World.block_lt_of_cell? w _ hc
theorem divA_more {zs : List Int} {c c2 : Nat} {b b2 : Int} (h : shIn zs) (h0 : 0 ≤ b) (h1 : 0 ≤ b2) (hb : b ≤ b2) (hc : c2 ≤ c) {i : Nat} (hi : i < zs.length) : (divA zs c b).getD i 0 ≤ (divA zs c2 b2).getD i 0 := by
  have hz : ∀ z ∈ zs, 0 ≤ z := fun z hz => (h z hz).1
  exact div_more (divA_ok hz h0) (divA_ok hz h1) hz (fun ys hy ht => Int.le_trans (topS_mono hy hc) (Int.le_trans ht hb)) hi
theorem usA_sha {r s : Int} {zs : List Int} {cN : Nat} {most : Int} (hl : zs.length ≤ 30) (hz : shIn zs) (hr : 0 ≤ r ∧ r ≤ 400) (hs : 0 ≤ s ∧ s ≤ 1000) (hm : 0 ≤ most ∧ most ≤ 1000) (hc : cN ≤ 30) :
    (r + most < s → shaE r s zs cN most = 33 ∧ shaZ r s zs cN most = []) ∧ (s ≤ r + most → shaE r s zs cN most = 0 ∧ shaZ r s zs cN most = divA zs cN (r + most - s)) ∧ usA r s zs cN most = decide (s ≤ r + most) := by
  have hok : okA r s zs cN most = true := by
    unfold okA
    rw [nightB_of hl hz hr hs, inB_true (by omega) (by omega), inB_true hm.1 hm.2]; rfl
  refine ⟨fun h => ?_, fun h => ?_, ?_⟩
  · have hE : shaE r s zs cN most = 33 := by unfold shaE; rw [if_pos hok, if_pos (by omega)]
    exact ⟨hE, by unfold shaZ; rw [hE]; rfl⟩
  · have hE : shaE r s zs cN most = 0 := by unfold shaE; rw [if_pos hok, if_neg (by omega)]
    exact ⟨hE, by unfold shaZ; rw [if_pos hE, Int.toNat_natCast]⟩
  · unfold usA; rw [hok, Bool.true_and]

set_option maxRecDepth 100000 in
set_option maxHeartbeats 12800000 in
theorem amore_walk (n0 n1 : Int) (v : Value) (zs : List Int) (c m q : Int) (_ : (Lit.int .i64 n0).wf = true) (_ : (Lit.int .i64 n1).wf = true) (_ : ∀ z ∈ zs, -9223372036854775808 ≤ z ∧ z ≤ 9223372036854775807) (_ : (Lit.int .i64 c).wf = true) (_ : (Lit.int .i64 m).wf = true) (wq : (Lit.int .u8 q).wf = true) (w : World) (hv : SlV w v zs) :
    Calls Try.prog 4 #[.agg #[.int .i64 n0, .int .i64 n1, v], .int .i64 c, .int .i64 m, .int .u8 q] w fun e w' => e = .returned (.bool true) ∧ Below w.heap.size w w' := by
  obtain ⟨a, cap, rfl, hc1, hc2, K⟩ := hv.c
  have hq : 0 ≤ q ∧ q ≤ 255 := by simpa [Lit.wf, IntKind.min, IntKind.max, IntKind.signed, IntKind.bits] using wq
  obtain ⟨g1, g2⟩ := hq
  obtain ⟨n, hn⟩ : ∃ n, zs.length = n := ⟨_, rfl⟩
  rw [hn] at K hc1 ⊢
  have HL := Lib.hid hn
  clear hv wq
  cases hu : usA n0 n1 zs c m with
  | false =>
    have HU := Lib.hid hu
    clear hu hn
    go_enter Try.func4, Try.ntmps4
    go_wp2_with fail
    refine (a_head_any _).mono ?_
    rintro e w1 ⟨rfl, hb1⟩
    have R_n_1 : Row w1 (w.heap.size) [.int .i64 n0, .int .i64 n1, .slice a n cap] := by (repeat' (first | (with_reducible assumption) | (with_reducible refine Row.new' _ _ _ (by first | rfl | (simp; done) | omega)) | (with_reducible refine Row.alloc ?_ _) | (with_reducible refine Row.drew ?_) | (with_reducible refine Row.drewN ?_ _) | (with_reducible refine Row.step ?_ (by with_reducible assumption)) | (with_reducible refine Row.set2' ?_ _ _; first | exact ⟨_, _, by with_reducible assumption⟩ | exact ⟨_, _, Row.alloc (by with_reducible assumption) _⟩ | exact ⟨_, _, Row.alloc (Row.alloc (by with_reducible assumption) _) _⟩) | (with_reducible refine Row.other ?_ (by first | omega | (simp; done) | (simp; omega)) _)))
    have c_n_0_1 := R_n_1.cell 0 rfl
    have c_n_1_1 := R_n_1.cell 1 rfl
    have c_n_2_1 := R_n_1.cell 2 rfl
    have l_n_1 := R_n_1.lt
    replace K := K.step (show Below w.heap.size w w1 by (repeat' (first | (with_reducible exact Below.refl _ _) | (with_reducible assumption) | (with_reducible exact Bw.out (by with_reducible assumption)) | (with_reducible refine bw_alloc ?_ _) | (with_reducible refine bw_step ?_ (by with_reducible assumption)) | (with_reducible refine Below.alloc ?_ ?_ _) | (with_reducible refine Below.drew ?_) | (with_reducible refine below_drewN ?_ _) | (with_reducible refine Below.setCell ?_ ?_ _) | (with_reducible refine below_step ?_ (by with_reducible assumption) ?_) | (with_reducible exact Nat.le_refl _) | omega | (simp; omega) | (simp; done))))
    have HB1 : Below w.heap.size w w1 := by (repeat' (first | (with_reducible exact Below.refl _ _) | (with_reducible assumption) | (with_reducible exact Bw.out (by with_reducible assumption)) | (with_reducible refine bw_alloc ?_ _) | (with_reducible refine bw_step ?_ (by with_reducible assumption)) | (with_reducible refine Below.alloc ?_ ?_ _) | (with_reducible refine Below.drew ?_) | (with_reducible refine below_drewN ?_ _) | (with_reducible refine Below.setCell ?_ ?_ _) | (with_reducible refine below_step ?_ (by with_reducible assumption) ?_) | (with_reducible exact Nat.le_refl _) | omega | (simp; omega) | (simp; done)))
    go_wp2_with fail
    refine (usable_any24 n0 n1 c m a n cap zs _ (K.step (by (repeat' (first | (with_reducible exact Below.refl _ _) | (with_reducible assumption) | (with_reducible exact Bw.out (by with_reducible assumption)) | (with_reducible refine bw_alloc ?_ _) | (with_reducible refine bw_step ?_ (by with_reducible assumption)) | (with_reducible refine Below.alloc ?_ ?_ _) | (with_reducible refine Below.drew ?_) | (with_reducible refine below_drewN ?_ _) | (with_reducible refine Below.setCell ?_ ?_ _) | (with_reducible refine below_step ?_ (by with_reducible assumption) ?_) | (with_reducible exact Nat.le_refl _) | omega | (simp; omega) | (simp; done))))) false HU.out).mono ?_
    rintro e w2 ⟨rfl, hb2⟩
    have R_n_2 : Row w2 (w.heap.size) [.int .i64 n0, .int .i64 n1, .slice a n cap] := by (repeat' (first | (with_reducible assumption) | (with_reducible refine Row.new' _ _ _ (by first | rfl | (simp; done) | omega)) | (with_reducible refine Row.alloc ?_ _) | (with_reducible refine Row.drew ?_) | (with_reducible refine Row.drewN ?_ _) | (with_reducible refine Row.step ?_ (by with_reducible assumption)) | (with_reducible refine Row.set2' ?_ _ _; first | exact ⟨_, _, by with_reducible assumption⟩ | exact ⟨_, _, Row.alloc (by with_reducible assumption) _⟩ | exact ⟨_, _, Row.alloc (Row.alloc (by with_reducible assumption) _) _⟩) | (with_reducible refine Row.other ?_ (by first | omega | (simp; done) | (simp; omega)) _)))
    have c_n_0_2 := R_n_2.cell 0 rfl
    have c_n_1_2 := R_n_2.cell 1 rfl
    have c_n_2_2 := R_n_2.cell 2 rfl
    have l_n_2 := R_n_2.lt
    replace K := K.step (show Below w1.heap.size w1 w2 by (repeat' (first | (with_reducible exact Below.refl _ _) | (with_reducible assumption) | (with_reducible exact Bw.out (by with_reducible assumption)) | (with_reducible refine bw_alloc ?_ _) | (with_reducible refine bw_step ?_ (by with_reducible assumption)) | (with_reducible refine Below.alloc ?_ ?_ _) | (with_reducible refine Below.drew ?_) | (with_reducible refine below_drewN ?_ _) | (with_reducible refine Below.setCell ?_ ?_ _) | (with_reducible refine below_step ?_ (by with_reducible assumption) ?_) | (with_reducible exact Nat.le_refl _) | omega | (simp; omega) | (simp; done))))
    have HB2 : Below w.heap.size w w2 := by (repeat' (first | (with_reducible exact Below.refl _ _) | (with_reducible assumption) | (with_reducible exact Bw.out (by with_reducible assumption)) | (with_reducible refine bw_alloc ?_ _) | (with_reducible refine bw_step ?_ (by with_reducible assumption)) | (with_reducible refine Below.alloc ?_ ?_ _) | (with_reducible refine Below.drew ?_) | (with_reducible refine below_drewN ?_ _) | (with_reducible refine Below.setCell ?_ ?_ _) | (with_reducible refine below_step ?_ (by with_reducible assumption) ?_) | (with_reducible exact Nat.le_refl _) | omega | (simp; omega) | (simp; done)))
    clear R_n_1 c_n_0_1 c_n_1_1 c_n_2_1 hb1 HB1
    go_wp2_with fail
    go_ret
    refine ⟨(by first | rfl | exact ret_bool (by first | rfl | (simp; done) | (simp; omega))), ?_⟩
    (repeat' (first | (with_reducible exact Below.refl _ _) | (with_reducible assumption) | (with_reducible exact Bw.out (by with_reducible assumption)) | (with_reducible refine bw_alloc ?_ _) | (with_reducible refine bw_step ?_ (by with_reducible assumption)) | (with_reducible refine Below.alloc ?_ ?_ _) | (with_reducible refine Below.drew ?_) | (with_reducible refine below_drewN ?_ _) | (with_reducible refine Below.setCell ?_ ?_ _) | (with_reducible refine below_step ?_ (by with_reducible assumption) ?_) | (with_reducible exact Nat.le_refl _) | omega | (simp; omega) | (simp; done)))
  | true =>
    have HU := Lib.hid hu
    obtain ⟨cN, rfl, hc30, p1, p2, p3, p4, ⟨p5, p6⟩, p7, hE, hZ⟩ := usA_parts hu
    obtain ⟨Z, hZd⟩ : ∃ Z, divA zs cN (n0 + m - n1) = Z := ⟨_, rfl⟩
    rw [hZd] at hZ
    have hZl : Z.length = n := by rw [← hZd, divA_length, hn]
    have HE := Lib.hid hE
    have HZ := Lib.hid hZ
    have HZL := Lib.hid hZl
    have hn30 : n ≤ 30 := by omega
    obtain ⟨R, hR⟩ : ∃ R : Int, (if n0 + q < 400 then n0 + q else 400) = R := ⟨_, rfl⟩
    obtain ⟨S, hS⟩ : ∃ R : Int, (if n1 + q < 1000 then n1 + q else 1000) = R := ⟨_, rfl⟩
    obtain ⟨M, hM⟩ : ∃ R : Int, (if m + q < 1000 then m + q else 1000) = R := ⟨_, rfl⟩
    obtain ⟨D, hD⟩ : ∃ R : Nat, (if (cN : Int) + q < 30 then (cN : Int) + q else 30) = (R : Int) := ⟨(if (cN : Int) + q < 30 then (cN : Int) + q else 30).toNat, by split <;> omega⟩
    have hR2 : n0 ≤ R ∧ R ≤ 400 := by rw [← hR]; split <;> omega
    have hS2 : n1 ≤ S ∧ S ≤ 1000 := by rw [← hS]; split <;> omega
    have hM2 : m ≤ M ∧ M ≤ 1000 := by rw [← hM]; split <;> omega
    have hD2 : cN ≤ D ∧ D ≤ 30 := by split at hD <;> omega
    have HRR := Lib.hid hR
    have HSS := Lib.hid hS
    have HMM : Hid ((m + q < 1000 ∧ m + q = M) ∨ (¬ m + q < 1000 ∧ 1000 = M)) := by show _ ∨ _; split at hM <;> omega
    obtain ⟨C3, hC3⟩ : ∃ C3 : Int, (D : Int) = C3 := ⟨_, rfl⟩
    have HDD : Hid (((cN : Int) + q < 30 ∧ (cN : Int) + q = C3) ∨ (¬ (cN : Int) + q < 30 ∧ 30 = C3)) := by show _ ∨ _; split at hD <;> omega
    clear hR hS hM hD
    obtain ⟨ZA, hZA⟩ : ∃ Y, divA zs cN (R + m - n1) = Y := ⟨_, rfl⟩
    obtain ⟨ZB, hZB⟩ : ∃ Y, divA zs cN (n0 + M - n1) = Y := ⟨_, rfl⟩
    obtain ⟨ZC, hZC⟩ : ∃ Y, divA zs D (n0 + m - n1) = Y := ⟨_, rfl⟩
    obtain ⟨ZS, hZS⟩ : ∃ Y, divA zs cN (n0 + m - S) = Y := ⟨_, rfl⟩
    obtain ⟨sA1, sA2⟩ := (usA_sha (cN := cN) (most := m) p2 p1 (r := R) ⟨by omega, hR2.2⟩ p4 ⟨p5, p6⟩ hc30).2.1 (by omega)
    obtain ⟨sB1, sB2⟩ := (usA_sha (cN := cN) (most := M) p2 p1 p3 p4 ⟨by omega, hM2.2⟩ hc30).2.1 (by omega)
    obtain ⟨sC1, sC2⟩ := (usA_sha (cN := D) (most := m) p2 p1 p3 p4 ⟨p5, p6⟩ hD2.2).2.1 p7
    obtain ⟨sS1, sS2, sS3⟩ := usA_sha (cN := cN) (most := m) (s := S) p2 p1 p3 ⟨by omega, hS2.2⟩ ⟨p5, p6⟩ hc30
    rw [hZA] at sA2
    rw [hZB] at sB2
    rw [hZC, hC3] at sC2
    rw [hC3] at sC1
    rw [hZS] at sS2
    have HSA1 := Lib.hid sA1
    have HSA2 := Lib.hid sA2
    have HSB1 := Lib.hid sB1
    have HSB2 := Lib.hid sB2
    have HSC1 := Lib.hid sC1
    have HSC2 := Lib.hid sC2
    have HS1 := Lib.hid sS1
    have HS2 := Lib.hid sS2
    have HS3 := Lib.hid sS3
    have HLA : Hid (ZA.length = n) := by show _ = _; rw [← hZA, divA_length]; exact hn
    have HLB : Hid (ZB.length = n) := by show _ = _; rw [← hZB, divA_length]; exact hn
    have HLC : Hid (ZC.length = n) := by show _ = _; rw [← hZC, divA_length]; exact hn
    have HLS : Hid (ZS.length = n) := by show _ = _; rw [← hZS, divA_length]; exact hn
    have HPW : Hid (∀ k, k < n → Z.getD k 0 ≤ ZA.getD k 0 ∧ Z.getD k 0 ≤ ZB.getD k 0 ∧ ZC.getD k 0 ≤ Z.getD k 0) := fun k hk => by
      rw [← hZd, ← hZA, ← hZB, ← hZC]
      exact ⟨divA_more p1 (by omega) (by omega) (by omega) (Nat.le_refl _) (by omega), divA_more p1 (by omega) (by omega) (by omega) (Nat.le_refl _) (by omega), divA_more p1 (by omega) (by omega) (Int.le_refl _) hD2.1 (by omega)⟩
    have HPS : Hid (S ≤ n0 + m → ∀ k, k < n → ZS.getD k 0 ≤ Z.getD k 0) := fun hs k hk => by
      rw [← hZd, ← hZS]
      exact divA_more p1 (by omega) (by omega) (by omega) (Nat.le_refl _) (by omega)
    have HK0 := Lib.hid K
    obtain ⟨p31, p32⟩ := p3
    obtain ⟨p41, p42⟩ := p4
    clear hu hE hZ hZd hZA hZB hZC hZS sA1 sA2 sB1 sB2 sC1 sC2 sS1 sS2 sS3 p1 p2 hn hR2 hS2 hM2 hD2 hZl
    go_enter Try.func4, Try.ntmps4
    go_wp2_with fail
    refine (a_head_any _).mono ?_
    rintro e w1 ⟨rfl, hb1⟩
    have R_n_1 : Row w1 (w.heap.size) [.int .i64 n0, .int .i64 n1, .slice a n cap] := by (repeat' (first | (with_reducible assumption) | (with_reducible refine Row.new' _ _ _ (by first | rfl | (simp; done) | omega)) | (with_reducible refine Row.alloc ?_ _) | (with_reducible refine Row.drew ?_) | (with_reducible refine Row.drewN ?_ _) | (with_reducible refine Row.step ?_ (by with_reducible assumption)) | (with_reducible refine Row.set2' ?_ _ _; first | exact ⟨_, _, by with_reducible assumption⟩ | exact ⟨_, _, Row.alloc (by with_reducible assumption) _⟩ | exact ⟨_, _, Row.alloc (Row.alloc (by with_reducible assumption) _) _⟩) | (with_reducible refine Row.other ?_ (by first | omega | (simp; done) | (simp; omega)) _)))
    have c_n_0_1 := R_n_1.cell 0 rfl
    have c_n_1_1 := R_n_1.cell 1 rfl
    have c_n_2_1 := R_n_1.cell 2 rfl
    have l_n_1 := R_n_1.lt
    replace K := K.step (show Below w.heap.size w w1 by (repeat' (first | (with_reducible exact Below.refl _ _) | (with_reducible assumption) | (with_reducible exact Bw.out (by with_reducible assumption)) | (with_reducible refine bw_alloc ?_ _) | (with_reducible refine bw_step ?_ (by with_reducible assumption)) | (with_reducible refine Below.alloc ?_ ?_ _) | (with_reducible refine Below.drew ?_) | (with_reducible refine below_drewN ?_ _) | (with_reducible refine Below.setCell ?_ ?_ _) | (with_reducible refine below_step ?_ (by with_reducible assumption) ?_) | (with_reducible exact Nat.le_refl _) | omega | (simp; omega) | (simp; done))))
    have HB1 : Below w.heap.size w w1 := by (repeat' (first | (with_reducible exact Below.refl _ _) | (with_reducible assumption) | (with_reducible exact Bw.out (by with_reducible assumption)) | (with_reducible refine bw_alloc ?_ _) | (with_reducible refine bw_step ?_ (by with_reducible assumption)) | (with_reducible refine Below.alloc ?_ ?_ _) | (with_reducible refine Below.drew ?_) | (with_reducible refine below_drewN ?_ _) | (with_reducible refine Below.setCell ?_ ?_ _) | (with_reducible refine below_step ?_ (by with_reducible assumption) ?_) | (with_reducible exact Nat.le_refl _) | omega | (simp; omega) | (simp; done)))
    go_wp2_with fail
    refine (usable_any24 n0 n1 cN m a n cap zs _ (K.step (by (repeat' (first | (with_reducible exact Below.refl _ _) | (with_reducible assumption) | (with_reducible exact Bw.out (by with_reducible assumption)) | (with_reducible refine bw_alloc ?_ _) | (with_reducible refine bw_step ?_ (by with_reducible assumption)) | (with_reducible refine Below.alloc ?_ ?_ _) | (with_reducible refine Below.drew ?_) | (with_reducible refine below_drewN ?_ _) | (with_reducible refine Below.setCell ?_ ?_ _) | (with_reducible refine below_step ?_ (by with_reducible assumption) ?_) | (with_reducible exact Nat.le_refl _) | omega | (simp; omega) | (simp; done))))) true HU.out).mono ?_
    rintro e w2 ⟨rfl, hb2⟩
    have R_n_2 : Row w2 (w.heap.size) [.int .i64 n0, .int .i64 n1, .slice a n cap] := by (repeat' (first | (with_reducible assumption) | (with_reducible refine Row.new' _ _ _ (by first | rfl | (simp; done) | omega)) | (with_reducible refine Row.alloc ?_ _) | (with_reducible refine Row.drew ?_) | (with_reducible refine Row.drewN ?_ _) | (with_reducible refine Row.step ?_ (by with_reducible assumption)) | (with_reducible refine Row.set2' ?_ _ _; first | exact ⟨_, _, by with_reducible assumption⟩ | exact ⟨_, _, Row.alloc (by with_reducible assumption) _⟩ | exact ⟨_, _, Row.alloc (Row.alloc (by with_reducible assumption) _) _⟩) | (with_reducible refine Row.other ?_ (by first | omega | (simp; done) | (simp; omega)) _)))
    have c_n_0_2 := R_n_2.cell 0 rfl
    have c_n_1_2 := R_n_2.cell 1 rfl
    have c_n_2_2 := R_n_2.cell 2 rfl
    have l_n_2 := R_n_2.lt
    replace K := K.step (show Below w1.heap.size w1 w2 by (repeat' (first | (with_reducible exact Below.refl _ _) | (with_reducible assumption) | (with_reducible exact Bw.out (by with_reducible assumption)) | (with_reducible refine bw_alloc ?_ _) | (with_reducible refine bw_step ?_ (by with_reducible assumption)) | (with_reducible refine Below.alloc ?_ ?_ _) | (with_reducible refine Below.drew ?_) | (with_reducible refine below_drewN ?_ _) | (with_reducible refine Below.setCell ?_ ?_ _) | (with_reducible refine below_step ?_ (by with_reducible assumption) ?_) | (with_reducible exact Nat.le_refl _) | omega | (simp; omega) | (simp; done))))
    have HB2 : Below w.heap.size w w2 := by (repeat' (first | (with_reducible exact Below.refl _ _) | (with_reducible assumption) | (with_reducible exact Bw.out (by with_reducible assumption)) | (with_reducible refine bw_alloc ?_ _) | (with_reducible refine bw_step ?_ (by with_reducible assumption)) | (with_reducible refine Below.alloc ?_ ?_ _) | (with_reducible refine Below.drew ?_) | (with_reducible refine below_drewN ?_ _) | (with_reducible refine Below.setCell ?_ ?_ _) | (with_reducible refine below_step ?_ (by with_reducible assumption) ?_) | (with_reducible exact Nat.le_refl _) | omega | (simp; omega) | (simp; done)))
    clear R_n_1 c_n_0_1 c_n_1_1 c_n_2_1 hb1 HB1
    go_wp2_with fail
    refine (shares_any24 n0 n1 cN m a n cap zs _ (K.step (by (repeat' (first | (with_reducible exact Below.refl _ _) | (with_reducible assumption) | (with_reducible exact Bw.out (by with_reducible assumption)) | (with_reducible refine bw_alloc ?_ _) | (with_reducible refine bw_step ?_ (by with_reducible assumption)) | (with_reducible refine Below.alloc ?_ ?_ _) | (with_reducible refine Below.drew ?_) | (with_reducible refine below_drewN ?_ _) | (with_reducible refine Below.setCell ?_ ?_ _) | (with_reducible refine below_step ?_ (by with_reducible assumption) ?_) | (with_reducible exact Nat.le_refl _) | omega | (simp; omega) | (simp; done))))) 0 Z HE.out HZ.out n HZL.out true (by simp)).mono ?_
    rintro e w3 ⟨ad, cp, rfl, KZ, hb3⟩
    have R_n_3 : Row w3 (w.heap.size) [.int .i64 n0, .int .i64 n1, .slice a n cap] := by (repeat' (first | (with_reducible assumption) | (with_reducible refine Row.new' _ _ _ (by first | rfl | (simp; done) | omega)) | (with_reducible refine Row.alloc ?_ _) | (with_reducible refine Row.drew ?_) | (with_reducible refine Row.drewN ?_ _) | (with_reducible refine Row.step ?_ (by with_reducible assumption)) | (with_reducible refine Row.set2' ?_ _ _; first | exact ⟨_, _, by with_reducible assumption⟩ | exact ⟨_, _, Row.alloc (by with_reducible assumption) _⟩ | exact ⟨_, _, Row.alloc (Row.alloc (by with_reducible assumption) _) _⟩) | (with_reducible refine Row.other ?_ (by first | omega | (simp; done) | (simp; omega)) _)))
    have c_n_0_3 := R_n_3.cell 0 rfl
    have c_n_1_3 := R_n_3.cell 1 rfl
    have c_n_2_3 := R_n_3.cell 2 rfl
    have l_n_3 := R_n_3.lt
    replace K := K.step (show Below w2.heap.size w2 w3 by (repeat' (first | (with_reducible exact Below.refl _ _) | (with_reducible assumption) | (with_reducible exact Bw.out (by with_reducible assumption)) | (with_reducible refine bw_alloc ?_ _) | (with_reducible refine bw_step ?_ (by with_reducible assumption)) | (with_reducible refine Below.alloc ?_ ?_ _) | (with_reducible refine Below.drew ?_) | (with_reducible refine below_drewN ?_ _) | (with_reducible refine Below.setCell ?_ ?_ _) | (with_reducible refine below_step ?_ (by with_reducible assumption) ?_) | (with_reducible exact Nat.le_refl _) | omega | (simp; omega) | (simp; done))))
    have HB3 : Below w.heap.size w w3 := by (repeat' (first | (with_reducible exact Below.refl _ _) | (with_reducible assumption) | (with_reducible exact Bw.out (by with_reducible assumption)) | (with_reducible refine bw_alloc ?_ _) | (with_reducible refine bw_step ?_ (by with_reducible assumption)) | (with_reducible refine Below.alloc ?_ ?_ _) | (with_reducible refine Below.drew ?_) | (with_reducible refine below_drewN ?_ _) | (with_reducible refine Below.setCell ?_ ?_ _) | (with_reducible refine below_step ?_ (by with_reducible assumption) ?_) | (with_reducible exact Nat.le_refl _) | omega | (simp; omega) | (simp; done)))
    clear R_n_2 c_n_0_2 c_n_1_2 c_n_2_2 hb2 HB2
    have HKZ3 := Lib.hid KZ
    go_wp2_with fail
    go_cut [12, 13] (fun s0 s1 wx => ∃ g_x : Nat, ∃ g_y : Nat, s0 = .pointer (some ⟨g_x, 0, none⟩) ∧ s1 = .pointer (some ⟨g_y, 0, none⟩) ∧ w3.heap.size ≤ g_x ∧ w3.heap.size ≤ g_y ∧ g_x ≠ g_y ∧ Row wx g_x [.int .i64 (n0), .int .i64 (n1), .slice a n cap] ∧ Row wx g_y [.int .i64 (n0), .int .i64 (n1), .slice a n cap] ∧ Row wx (w.heap.size) [.int .i64 n0, .int .i64 n1, .slice a n cap] ∧ SlC wx (a) (n) (cap) (zs) ∧ SlC wx (ad) (n) (cp) (Z) ∧ Bw w.heap.size w wx)
    case first =>
      go_region_held3 (fun w' => w'.cell? ⟨w.heap.size, 0, none⟩ = some (.int .i64 n0) ∧ w'.cell? ⟨w.heap.size, 1, none⟩ = some (.int .i64 n1) ∧ w'.cell? ⟨w.heap.size, 2, none⟩ = some (.slice a n cap) ∧ Row w' (w.heap.size) [.int .i64 n0, .int .i64 n1, .slice a n cap] ∧ SlC w' (a) (n) (cap) (zs) ∧ SlC w' (ad) (n) (cp) (Z) ∧ Bw w.heap.size w w')
        (((try go_split_ands); exact ⟨Row.cell (cs := [.int .i64 n0, .int .i64 n1, .slice a n cap]) (by (repeat' (first | (with_reducible assumption) | (with_reducible refine Row.new' _ _ _ (by first | rfl | (simp; done) | omega)) | (with_reducible refine Row.alloc ?_ _) | (with_reducible refine Row.drew ?_) | (with_reducible refine Row.drewN ?_ _) | (with_reducible refine Row.step ?_ (by with_reducible assumption)) | (with_reducible refine Row.set2' ?_ _ _; first | exact ⟨_, _, by with_reducible assumption⟩ | exact ⟨_, _, Row.alloc (by with_reducible assumption) _⟩ | exact ⟨_, _, Row.alloc (Row.alloc (by with_reducible assumption) _) _⟩) | (with_reducible refine Row.other ?_ (by first | omega | (simp; done) | (simp; omega)) _)))) 0 rfl, Row.cell (cs := [.int .i64 n0, .int .i64 n1, .slice a n cap]) (by (repeat' (first | (with_reducible assumption) | (with_reducible refine Row.new' _ _ _ (by first | rfl | (simp; done) | omega)) | (with_reducible refine Row.alloc ?_ _) | (with_reducible refine Row.drew ?_) | (with_reducible refine Row.drewN ?_ _) | (with_reducible refine Row.step ?_ (by with_reducible assumption)) | (with_reducible refine Row.set2' ?_ _ _; first | exact ⟨_, _, by with_reducible assumption⟩ | exact ⟨_, _, Row.alloc (by with_reducible assumption) _⟩ | exact ⟨_, _, Row.alloc (Row.alloc (by with_reducible assumption) _) _⟩) | (with_reducible refine Row.other ?_ (by first | omega | (simp; done) | (simp; omega)) _)))) 1 rfl, Row.cell (cs := [.int .i64 n0, .int .i64 n1, .slice a n cap]) (by (repeat' (first | (with_reducible assumption) | (with_reducible refine Row.new' _ _ _ (by first | rfl | (simp; done) | omega)) | (with_reducible refine Row.alloc ?_ _) | (with_reducible refine Row.drew ?_) | (with_reducible refine Row.drewN ?_ _) | (with_reducible refine Row.step ?_ (by with_reducible assumption)) | (with_reducible refine Row.set2' ?_ _ _; first | exact ⟨_, _, by with_reducible assumption⟩ | exact ⟨_, _, Row.alloc (by with_reducible assumption) _⟩ | exact ⟨_, _, Row.alloc (Row.alloc (by with_reducible assumption) _) _⟩) | (with_reducible refine Row.other ?_ (by first | omega | (simp; done) | (simp; omega)) _)))) 2 rfl, by (repeat' (first | (with_reducible assumption) | (with_reducible refine Row.new' _ _ _ (by first | rfl | (simp; done) | omega)) | (with_reducible refine Row.alloc ?_ _) | (with_reducible refine Row.drew ?_) | (with_reducible refine Row.drewN ?_ _) | (with_reducible refine Row.step ?_ (by with_reducible assumption)) | (with_reducible refine Row.set2' ?_ _ _; first | exact ⟨_, _, by with_reducible assumption⟩ | exact ⟨_, _, Row.alloc (by with_reducible assumption) _⟩ | exact ⟨_, _, Row.alloc (Row.alloc (by with_reducible assumption) _) _⟩) | (with_reducible refine Row.other ?_ (by first | omega | (simp; done) | (simp; omega)) _))), by (repeat' (first | (with_reducible assumption) | (with_reducible refine SlC.drew ?_) | (with_reducible refine SlC.drewN ?_ _) | (with_reducible refine SlC.alloc ?_ _) | (with_reducible refine SlC.step ?_ (by with_reducible assumption)))), by (repeat' (first | (with_reducible assumption) | (with_reducible refine SlC.drew ?_) | (with_reducible refine SlC.drewN ?_ _) | (with_reducible refine SlC.alloc ?_ _) | (with_reducible refine SlC.step ?_ (by with_reducible assumption)))), (by (repeat' (first | (with_reducible exact Below.refl _ _) | (with_reducible assumption) | (with_reducible exact Bw.out (by with_reducible assumption)) | (with_reducible refine bw_alloc ?_ _) | (with_reducible refine bw_step ?_ (by with_reducible assumption)) | (with_reducible refine Below.alloc ?_ ?_ _) | (with_reducible refine Below.drew ?_) | (with_reducible refine below_drewN ?_ _) | (with_reducible refine Below.setCell ?_ ?_ _) | (with_reducible refine below_step ?_ (by with_reducible assumption) ?_) | (with_reducible exact Nat.le_refl _) | omega | (simp; omega) | (simp; done))) : Below _ _ _)⟩))
        (fail)
      all_goals
        rename_i hH
        obtain ⟨_, _, _, hH_n, hX_X1, hX_X2, hHB⟩ := hH
        go_wp2_with fail
        go_meet
        exact ⟨_, _, rfl, rfl, (by first | omega | (simp; done) | (simp; omega)), (by first | omega | (simp; done) | (simp; omega)), (by first | omega | (simp; done) | (simp; omega)), by (repeat (with_reducible refine Row.other ?_ (by first | omega | (simp; done) | (simp; omega)) _)); first | (with_reducible exact Row.new' _ _ _ (by simp)) | (refine Row.set3' ⟨_, _, _, ?_⟩ _ _ _; (repeat' (first | (with_reducible assumption) | (with_reducible refine Row.new' _ _ _ (by first | rfl | (simp; done) | omega)) | (with_reducible refine Row.alloc ?_ _) | (with_reducible refine Row.drew ?_) | (with_reducible refine Row.drewN ?_ _) | (with_reducible refine Row.step ?_ (by with_reducible assumption)) | (with_reducible refine Row.set2' ?_ _ _; first | exact ⟨_, _, by with_reducible assumption⟩ | exact ⟨_, _, Row.alloc (by with_reducible assumption) _⟩ | exact ⟨_, _, Row.alloc (Row.alloc (by with_reducible assumption) _) _⟩) | (with_reducible refine Row.other ?_ (by first | omega | (simp; done) | (simp; omega)) _)))) | ((repeat' (first | (with_reducible assumption) | (with_reducible refine Row.new' _ _ _ (by first | rfl | (simp; done) | omega)) | (with_reducible refine Row.alloc ?_ _) | (with_reducible refine Row.drew ?_) | (with_reducible refine Row.drewN ?_ _) | (with_reducible refine Row.step ?_ (by with_reducible assumption)) | (with_reducible refine Row.set2' ?_ _ _; first | exact ⟨_, _, by with_reducible assumption⟩ | exact ⟨_, _, Row.alloc (by with_reducible assumption) _⟩ | exact ⟨_, _, Row.alloc (Row.alloc (by with_reducible assumption) _) _⟩) | (with_reducible refine Row.other ?_ (by first | omega | (simp; done) | (simp; omega)) _)))), by (repeat (with_reducible refine Row.other ?_ (by first | omega | (simp; done) | (simp; omega)) _)); first | (with_reducible exact Row.new' _ _ _ (by simp)) | (refine Row.set3' ⟨_, _, _, ?_⟩ _ _ _; (repeat' (first | (with_reducible assumption) | (with_reducible refine Row.new' _ _ _ (by first | rfl | (simp; done) | omega)) | (with_reducible refine Row.alloc ?_ _) | (with_reducible refine Row.drew ?_) | (with_reducible refine Row.drewN ?_ _) | (with_reducible refine Row.step ?_ (by with_reducible assumption)) | (with_reducible refine Row.set2' ?_ _ _; first | exact ⟨_, _, by with_reducible assumption⟩ | exact ⟨_, _, Row.alloc (by with_reducible assumption) _⟩ | exact ⟨_, _, Row.alloc (Row.alloc (by with_reducible assumption) _) _⟩) | (with_reducible refine Row.other ?_ (by first | omega | (simp; done) | (simp; omega)) _)))) | ((repeat' (first | (with_reducible assumption) | (with_reducible refine Row.new' _ _ _ (by first | rfl | (simp; done) | omega)) | (with_reducible refine Row.alloc ?_ _) | (with_reducible refine Row.drew ?_) | (with_reducible refine Row.drewN ?_ _) | (with_reducible refine Row.step ?_ (by with_reducible assumption)) | (with_reducible refine Row.set2' ?_ _ _; first | exact ⟨_, _, by with_reducible assumption⟩ | exact ⟨_, _, Row.alloc (by with_reducible assumption) _⟩ | exact ⟨_, _, Row.alloc (Row.alloc (by with_reducible assumption) _) _⟩) | (with_reducible refine Row.other ?_ (by first | omega | (simp; done) | (simp; omega)) _)))), hH_n, hX_X1, hX_X2, hHB⟩
    case' rest =>
      obtain ⟨g_x, g_y, rfl, rfl, n_x_4, n_y_4, d_x_y, R_x_4, R_y_4, R_n_4, X1, X2, HB4⟩ := hcut
      obtain ⟨w4, hw4⟩ : ∃ wd, wd = wc := ⟨_, rfl⟩
      subst hw4
      replace HB4 := HB4.out
      clear R_n_3 c_n_0_3 c_n_1_3 c_n_2_3 hb3 HB3
      have c_n_0_4 := R_n_4.cell 0 rfl
      have c_n_1_4 := R_n_4.cell 1 rfl
      have c_n_2_4 := R_n_4.cell 2 rfl
      have l_n_4 := R_n_4.lt
      have c_x_0_4 := R_x_4.cell 0 rfl
      have c_x_1_4 := R_x_4.cell 1 rfl
      have c_x_2_4 := R_x_4.cell 2 rfl
      have z_x_0_4 := R_x_4.frozen 0
      have z_x_1_4 := R_x_4.frozen 1
      have z_x_2_4 := R_x_4.frozen 2
      have l_x_4 := R_x_4.lt
      have c_y_0_4 := R_y_4.cell 0 rfl
      have c_y_1_4 := R_y_4.cell 1 rfl
      have c_y_2_4 := R_y_4.cell 2 rfl
      have z_y_0_4 := R_y_4.frozen 0
      have z_y_1_4 := R_y_4.frozen 1
      have z_y_2_4 := R_y_4.frozen 2
      have l_y_4 := R_y_4.lt
    case rest =>
      go_upto_region 10 with fail
      rw [HRR.out, HSS.out]
      obtain ⟨w5, hw5⟩ : ∃ wd, (w4.setCell ⟨g_x, 0, none⟩ (.int .i64 R)).setCell ⟨g_y, 1, none⟩ (.int .i64 S) = wd := ⟨_, rfl⟩
      rw [hw5]
      have R_x_5 : Row w5 g_x [.int .i64 R, .int .i64 n1, .slice a n cap] := by rw [← hw5]; exact (R_x_4.putAt 0 _ rfl).other d_x_y _
      have R_y_5 : Row w5 g_y [.int .i64 n0, .int .i64 S, .slice a n cap] := by rw [← hw5]; exact (R_y_4.other (Ne.symm d_x_y) _).putAt 1 _ rfl
      have R_n_5 : Row w5 w.heap.size [.int .i64 n0, .int .i64 n1, .slice a n cap] := by rw [← hw5]; exact (R_n_4.other (by simp; omega) _).other (by simp; omega) _
      have HB5 : Below w.heap.size w w5 := by rw [← hw5]; exact (HB4.setCell (by simp; omega) _).setCell (by simp; omega) _
      have K5 : SlC w5 a n cap zs := HK0.out.step HB5
      have Z5 : SlC w5 ad n cp Z := by
        rw [← hw5]
        exact (X2.putN (fun g o e h0 => by have := HKZ3.out.ltN e h0; omega)).putN (fun g o e h0 => by have := HKZ3.out.ltN e h0; omega)
      clear hw5 R_x_4 R_y_4 R_n_4 X1 X2 K KZ HB4 c_x_0_4 c_x_1_4 c_x_2_4 c_y_0_4 c_y_1_4 c_y_2_4 c_n_0_4 c_n_1_4 c_n_2_4 z_x_0_4 z_x_1_4 z_x_2_4 z_y_0_4 z_y_1_4 z_y_2_4 l_x_4 l_y_4 l_n_4
      have c_x_0_5 := R_x_5.cell 0 rfl
      have c_x_1_5 := R_x_5.cell 1 rfl
      have c_x_2_5 := R_x_5.cell 2 rfl
      have c_y_0_5 := R_y_5.cell 0 rfl
      have c_y_1_5 := R_y_5.cell 1 rfl
      have c_y_2_5 := R_y_5.cell 2 rfl
      have c_n_0_5 := R_n_5.cell 0 rfl
      have c_n_1_5 := R_n_5.cell 1 rfl
      have c_n_2_5 := R_n_5.cell 2 rfl
      have l_x_5 := R_x_5.lt
      have l_y_5 := R_y_5.lt
      have l_n_5 := R_n_5.lt
      go_wp2_with fail
      refine (shares_any24 R n1 cN m a n cap zs _ (K5.step (by (repeat' (first | (with_reducible exact Below.refl _ _) | (with_reducible assumption) | (with_reducible exact Bw.out (by with_reducible assumption)) | (with_reducible refine bw_alloc ?_ _) | (with_reducible refine bw_step ?_ (by with_reducible assumption)) | (with_reducible refine Below.alloc ?_ ?_ _) | (with_reducible refine Below.drew ?_) | (with_reducible refine below_drewN ?_ _) | (with_reducible refine Below.setCell ?_ ?_ _) | (with_reducible refine below_step ?_ (by with_reducible assumption) ?_) | (with_reducible exact Nat.le_refl _) | omega | (simp; omega) | (simp; done))))) 0 ZA HSA1.out HSA2.out n HLA.out true (by simp)).mono ?_
      rintro e w6 ⟨aa, ca, rfl, KA, hb6⟩
      have R_n_6 : Row w6 (w.heap.size) [.int .i64 n0, .int .i64 n1, .slice a n cap] := by (repeat' (first | (with_reducible assumption) | (with_reducible refine Row.new' _ _ _ (by first | rfl | (simp; done) | omega)) | (with_reducible refine Row.alloc ?_ _) | (with_reducible refine Row.drew ?_) | (with_reducible refine Row.drewN ?_ _) | (with_reducible refine Row.step ?_ (by with_reducible assumption)) | (with_reducible refine Row.set2' ?_ _ _; first | exact ⟨_, _, by with_reducible assumption⟩ | exact ⟨_, _, Row.alloc (by with_reducible assumption) _⟩ | exact ⟨_, _, Row.alloc (Row.alloc (by with_reducible assumption) _) _⟩) | (with_reducible refine Row.other ?_ (by first | omega | (simp; done) | (simp; omega)) _)))
      have c_n_0_6 := R_n_6.cell 0 rfl
      have c_n_1_6 := R_n_6.cell 1 rfl
      have c_n_2_6 := R_n_6.cell 2 rfl
      have l_n_6 := R_n_6.lt
      have R_x_6 : Row w6 (g_x) [.int .i64 (R), .int .i64 (n1), .slice a n cap] := by (repeat' (first | (with_reducible assumption) | (with_reducible refine Row.new' _ _ _ (by first | rfl | (simp; done) | omega)) | (with_reducible refine Row.alloc ?_ _) | (with_reducible refine Row.drew ?_) | (with_reducible refine Row.drewN ?_ _) | (with_reducible refine Row.step ?_ (by with_reducible assumption)) | (with_reducible refine Row.set2' ?_ _ _; first | exact ⟨_, _, by with_reducible assumption⟩ | exact ⟨_, _, Row.alloc (by with_reducible assumption) _⟩ | exact ⟨_, _, Row.alloc (Row.alloc (by with_reducible assumption) _) _⟩) | (with_reducible refine Row.other ?_ (by first | omega | (simp; done) | (simp; omega)) _)))
      have c_x_0_6 := R_x_6.cell 0 rfl
      have c_x_1_6 := R_x_6.cell 1 rfl
      have c_x_2_6 := R_x_6.cell 2 rfl
      have l_x_6 := R_x_6.lt
      have R_y_6 : Row w6 (g_y) [.int .i64 (n0), .int .i64 (S), .slice a n cap] := by (repeat' (first | (with_reducible assumption) | (with_reducible refine Row.new' _ _ _ (by first | rfl | (simp; done) | omega)) | (with_reducible refine Row.alloc ?_ _) | (with_reducible refine Row.drew ?_) | (with_reducible refine Row.drewN ?_ _) | (with_reducible refine Row.step ?_ (by with_reducible assumption)) | (with_reducible refine Row.set2' ?_ _ _; first | exact ⟨_, _, by with_reducible assumption⟩ | exact ⟨_, _, Row.alloc (by with_reducible assumption) _⟩ | exact ⟨_, _, Row.alloc (Row.alloc (by with_reducible assumption) _) _⟩) | (with_reducible refine Row.other ?_ (by first | omega | (simp; done) | (simp; omega)) _)))
      have c_y_0_6 := R_y_6.cell 0 rfl
      have c_y_1_6 := R_y_6.cell 1 rfl
      have c_y_2_6 := R_y_6.cell 2 rfl
      have l_y_6 := R_y_6.lt
      replace K5 := K5.step (show Below w5.heap.size w5 w6 by (repeat' (first | (with_reducible exact Below.refl _ _) | (with_reducible assumption) | (with_reducible exact Bw.out (by with_reducible assumption)) | (with_reducible refine bw_alloc ?_ _) | (with_reducible refine bw_step ?_ (by with_reducible assumption)) | (with_reducible refine Below.alloc ?_ ?_ _) | (with_reducible refine Below.drew ?_) | (with_reducible refine below_drewN ?_ _) | (with_reducible refine Below.setCell ?_ ?_ _) | (with_reducible refine below_step ?_ (by with_reducible assumption) ?_) | (with_reducible exact Nat.le_refl _) | omega | (simp; omega) | (simp; done))))
      replace Z5 := Z5.step (show Below w5.heap.size w5 w6 by (repeat' (first | (with_reducible exact Below.refl _ _) | (with_reducible assumption) | (with_reducible exact Bw.out (by with_reducible assumption)) | (with_reducible refine bw_alloc ?_ _) | (with_reducible refine bw_step ?_ (by with_reducible assumption)) | (with_reducible refine Below.alloc ?_ ?_ _) | (with_reducible refine Below.drew ?_) | (with_reducible refine below_drewN ?_ _) | (with_reducible refine Below.setCell ?_ ?_ _) | (with_reducible refine below_step ?_ (by with_reducible assumption) ?_) | (with_reducible exact Nat.le_refl _) | omega | (simp; omega) | (simp; done))))
      have HB6 : Below w.heap.size w w6 := by (repeat' (first | (with_reducible exact Below.refl _ _) | (with_reducible assumption) | (with_reducible exact Bw.out (by with_reducible assumption)) | (with_reducible refine bw_alloc ?_ _) | (with_reducible refine bw_step ?_ (by with_reducible assumption)) | (with_reducible refine Below.alloc ?_ ?_ _) | (with_reducible refine Below.drew ?_) | (with_reducible refine below_drewN ?_ _) | (with_reducible refine Below.setCell ?_ ?_ _) | (with_reducible refine below_step ?_ (by with_reducible assumption) ?_) | (with_reducible exact Nat.le_refl _) | omega | (simp; omega) | (simp; done)))
      rcases HMM.out with ⟨hM1, hM2⟩ | ⟨hM1, hM2⟩
      all_goals
        subst hM2
        go_wp2_with fail
        refine (shares_any24 n0 n1 cN _ a n cap zs _ (K5.step (by (repeat' (first | (with_reducible exact Below.refl _ _) | (with_reducible assumption) | (with_reducible exact Bw.out (by with_reducible assumption)) | (with_reducible refine bw_alloc ?_ _) | (with_reducible refine bw_step ?_ (by with_reducible assumption)) | (with_reducible refine Below.alloc ?_ ?_ _) | (with_reducible refine Below.drew ?_) | (with_reducible refine below_drewN ?_ _) | (with_reducible refine Below.setCell ?_ ?_ _) | (with_reducible refine below_step ?_ (by with_reducible assumption) ?_) | (with_reducible exact Nat.le_refl _) | omega | (simp; omega) | (simp; done))))) 0 ZB HSB1.out HSB2.out n HLB.out true (by simp)).mono ?_
        rintro e w7 ⟨ab, cb, rfl, KB, hb7⟩
        have R_n_7 : Row w7 (w.heap.size) [.int .i64 n0, .int .i64 n1, .slice a n cap] := by (repeat' (first | (with_reducible assumption) | (with_reducible refine Row.new' _ _ _ (by first | rfl | (simp; done) | omega)) | (with_reducible refine Row.alloc ?_ _) | (with_reducible refine Row.drew ?_) | (with_reducible refine Row.drewN ?_ _) | (with_reducible refine Row.step ?_ (by with_reducible assumption)) | (with_reducible refine Row.set2' ?_ _ _; first | exact ⟨_, _, by with_reducible assumption⟩ | exact ⟨_, _, Row.alloc (by with_reducible assumption) _⟩ | exact ⟨_, _, Row.alloc (Row.alloc (by with_reducible assumption) _) _⟩) | (with_reducible refine Row.other ?_ (by first | omega | (simp; done) | (simp; omega)) _)))
        have c_n_0_7 := R_n_7.cell 0 rfl
        have c_n_1_7 := R_n_7.cell 1 rfl
        have c_n_2_7 := R_n_7.cell 2 rfl
        have l_n_7 := R_n_7.lt
        have R_x_7 : Row w7 (g_x) [.int .i64 (R), .int .i64 (n1), .slice a n cap] := by (repeat' (first | (with_reducible assumption) | (with_reducible refine Row.new' _ _ _ (by first | rfl | (simp; done) | omega)) | (with_reducible refine Row.alloc ?_ _) | (with_reducible refine Row.drew ?_) | (with_reducible refine Row.drewN ?_ _) | (with_reducible refine Row.step ?_ (by with_reducible assumption)) | (with_reducible refine Row.set2' ?_ _ _; first | exact ⟨_, _, by with_reducible assumption⟩ | exact ⟨_, _, Row.alloc (by with_reducible assumption) _⟩ | exact ⟨_, _, Row.alloc (Row.alloc (by with_reducible assumption) _) _⟩) | (with_reducible refine Row.other ?_ (by first | omega | (simp; done) | (simp; omega)) _)))
        have c_x_0_7 := R_x_7.cell 0 rfl
        have c_x_1_7 := R_x_7.cell 1 rfl
        have c_x_2_7 := R_x_7.cell 2 rfl
        have l_x_7 := R_x_7.lt
        have R_y_7 : Row w7 (g_y) [.int .i64 (n0), .int .i64 (S), .slice a n cap] := by (repeat' (first | (with_reducible assumption) | (with_reducible refine Row.new' _ _ _ (by first | rfl | (simp; done) | omega)) | (with_reducible refine Row.alloc ?_ _) | (with_reducible refine Row.drew ?_) | (with_reducible refine Row.drewN ?_ _) | (with_reducible refine Row.step ?_ (by with_reducible assumption)) | (with_reducible refine Row.set2' ?_ _ _; first | exact ⟨_, _, by with_reducible assumption⟩ | exact ⟨_, _, Row.alloc (by with_reducible assumption) _⟩ | exact ⟨_, _, Row.alloc (Row.alloc (by with_reducible assumption) _) _⟩) | (with_reducible refine Row.other ?_ (by first | omega | (simp; done) | (simp; omega)) _)))
        have c_y_0_7 := R_y_7.cell 0 rfl
        have c_y_1_7 := R_y_7.cell 1 rfl
        have c_y_2_7 := R_y_7.cell 2 rfl
        have l_y_7 := R_y_7.lt
        replace K5 := K5.step (show Below w6.heap.size w6 w7 by (repeat' (first | (with_reducible exact Below.refl _ _) | (with_reducible assumption) | (with_reducible exact Bw.out (by with_reducible assumption)) | (with_reducible refine bw_alloc ?_ _) | (with_reducible refine bw_step ?_ (by with_reducible assumption)) | (with_reducible refine Below.alloc ?_ ?_ _) | (with_reducible refine Below.drew ?_) | (with_reducible refine below_drewN ?_ _) | (with_reducible refine Below.setCell ?_ ?_ _) | (with_reducible refine below_step ?_ (by with_reducible assumption) ?_) | (with_reducible exact Nat.le_refl _) | omega | (simp; omega) | (simp; done))))
        replace Z5 := Z5.step (show Below w6.heap.size w6 w7 by (repeat' (first | (with_reducible exact Below.refl _ _) | (with_reducible assumption) | (with_reducible exact Bw.out (by with_reducible assumption)) | (with_reducible refine bw_alloc ?_ _) | (with_reducible refine bw_step ?_ (by with_reducible assumption)) | (with_reducible refine Below.alloc ?_ ?_ _) | (with_reducible refine Below.drew ?_) | (with_reducible refine below_drewN ?_ _) | (with_reducible refine Below.setCell ?_ ?_ _) | (with_reducible refine below_step ?_ (by with_reducible assumption) ?_) | (with_reducible exact Nat.le_refl _) | omega | (simp; omega) | (simp; done))))
        replace KA := KA.step (show Below w6.heap.size w6 w7 by (repeat' (first | (with_reducible exact Below.refl _ _) | (with_reducible assumption) | (with_reducible exact Bw.out (by with_reducible assumption)) | (with_reducible refine bw_alloc ?_ _) | (with_reducible refine bw_step ?_ (by with_reducible assumption)) | (with_reducible refine Below.alloc ?_ ?_ _) | (with_reducible refine Below.drew ?_) | (with_reducible refine below_drewN ?_ _) | (with_reducible refine Below.setCell ?_ ?_ _) | (with_reducible refine below_step ?_ (by with_reducible assumption) ?_) | (with_reducible exact Nat.le_refl _) | omega | (simp; omega) | (simp; done))))
        have HB7 : Below w.heap.size w w7 := by (repeat' (first | (with_reducible exact Below.refl _ _) | (with_reducible assumption) | (with_reducible exact Bw.out (by with_reducible assumption)) | (with_reducible refine bw_alloc ?_ _) | (with_reducible refine bw_step ?_ (by with_reducible assumption)) | (with_reducible refine Below.alloc ?_ ?_ _) | (with_reducible refine Below.drew ?_) | (with_reducible refine below_drewN ?_ _) | (with_reducible refine Below.setCell ?_ ?_ _) | (with_reducible refine below_step ?_ (by with_reducible assumption) ?_) | (with_reducible exact Nat.le_refl _) | omega | (simp; omega) | (simp; done)))
        clear R_n_6 c_n_0_6 c_n_1_6 c_n_2_6 R_x_6 c_x_0_6 c_x_1_6 c_x_2_6 R_y_6 c_y_0_6 c_y_1_6 c_y_2_6 hb6 HB6
        rcases HDD.out with ⟨hD1, hD2⟩ | ⟨hD1, hD2⟩
        all_goals
          subst hD2
          go_wp2_with fail
          refine (shares_any24 n0 n1 _ m a n cap zs _ (K5.step (by (repeat' (first | (with_reducible exact Below.refl _ _) | (with_reducible assumption) | (with_reducible exact Bw.out (by with_reducible assumption)) | (with_reducible refine bw_alloc ?_ _) | (with_reducible refine bw_step ?_ (by with_reducible assumption)) | (with_reducible refine Below.alloc ?_ ?_ _) | (with_reducible refine Below.drew ?_) | (with_reducible refine below_drewN ?_ _) | (with_reducible refine Below.setCell ?_ ?_ _) | (with_reducible refine below_step ?_ (by with_reducible assumption) ?_) | (with_reducible exact Nat.le_refl _) | omega | (simp; omega) | (simp; done))))) 0 ZC HSC1.out HSC2.out n HLC.out true (by simp)).mono ?_
          rintro e w8 ⟨ac, cc, rfl, KC, hb8⟩
          have R_n_8 : Row w8 (w.heap.size) [.int .i64 n0, .int .i64 n1, .slice a n cap] := by (repeat' (first | (with_reducible assumption) | (with_reducible refine Row.new' _ _ _ (by first | rfl | (simp; done) | omega)) | (with_reducible refine Row.alloc ?_ _) | (with_reducible refine Row.drew ?_) | (with_reducible refine Row.drewN ?_ _) | (with_reducible refine Row.step ?_ (by with_reducible assumption)) | (with_reducible refine Row.set2' ?_ _ _; first | exact ⟨_, _, by with_reducible assumption⟩ | exact ⟨_, _, Row.alloc (by with_reducible assumption) _⟩ | exact ⟨_, _, Row.alloc (Row.alloc (by with_reducible assumption) _) _⟩) | (with_reducible refine Row.other ?_ (by first | omega | (simp; done) | (simp; omega)) _)))
          have c_n_0_8 := R_n_8.cell 0 rfl
          have c_n_1_8 := R_n_8.cell 1 rfl
          have c_n_2_8 := R_n_8.cell 2 rfl
          have l_n_8 := R_n_8.lt
          have R_x_8 : Row w8 (g_x) [.int .i64 (R), .int .i64 (n1), .slice a n cap] := by (repeat' (first | (with_reducible assumption) | (with_reducible refine Row.new' _ _ _ (by first | rfl | (simp; done) | omega)) | (with_reducible refine Row.alloc ?_ _) | (with_reducible refine Row.drew ?_) | (with_reducible refine Row.drewN ?_ _) | (with_reducible refine Row.step ?_ (by with_reducible assumption)) | (with_reducible refine Row.set2' ?_ _ _; first | exact ⟨_, _, by with_reducible assumption⟩ | exact ⟨_, _, Row.alloc (by with_reducible assumption) _⟩ | exact ⟨_, _, Row.alloc (Row.alloc (by with_reducible assumption) _) _⟩) | (with_reducible refine Row.other ?_ (by first | omega | (simp; done) | (simp; omega)) _)))
          have c_x_0_8 := R_x_8.cell 0 rfl
          have c_x_1_8 := R_x_8.cell 1 rfl
          have c_x_2_8 := R_x_8.cell 2 rfl
          have l_x_8 := R_x_8.lt
          have R_y_8 : Row w8 (g_y) [.int .i64 (n0), .int .i64 (S), .slice a n cap] := by (repeat' (first | (with_reducible assumption) | (with_reducible refine Row.new' _ _ _ (by first | rfl | (simp; done) | omega)) | (with_reducible refine Row.alloc ?_ _) | (with_reducible refine Row.drew ?_) | (with_reducible refine Row.drewN ?_ _) | (with_reducible refine Row.step ?_ (by with_reducible assumption)) | (with_reducible refine Row.set2' ?_ _ _; first | exact ⟨_, _, by with_reducible assumption⟩ | exact ⟨_, _, Row.alloc (by with_reducible assumption) _⟩ | exact ⟨_, _, Row.alloc (Row.alloc (by with_reducible assumption) _) _⟩) | (with_reducible refine Row.other ?_ (by first | omega | (simp; done) | (simp; omega)) _)))
          have c_y_0_8 := R_y_8.cell 0 rfl
          have c_y_1_8 := R_y_8.cell 1 rfl
          have c_y_2_8 := R_y_8.cell 2 rfl
          have l_y_8 := R_y_8.lt
          replace K5 := K5.step (show Below w7.heap.size w7 w8 by (repeat' (first | (with_reducible exact Below.refl _ _) | (with_reducible assumption) | (with_reducible exact Bw.out (by with_reducible assumption)) | (with_reducible refine bw_alloc ?_ _) | (with_reducible refine bw_step ?_ (by with_reducible assumption)) | (with_reducible refine Below.alloc ?_ ?_ _) | (with_reducible refine Below.drew ?_) | (with_reducible refine below_drewN ?_ _) | (with_reducible refine Below.setCell ?_ ?_ _) | (with_reducible refine below_step ?_ (by with_reducible assumption) ?_) | (with_reducible exact Nat.le_refl _) | omega | (simp; omega) | (simp; done))))
          replace Z5 := Z5.step (show Below w7.heap.size w7 w8 by (repeat' (first | (with_reducible exact Below.refl _ _) | (with_reducible assumption) | (with_reducible exact Bw.out (by with_reducible assumption)) | (with_reducible refine bw_alloc ?_ _) | (with_reducible refine bw_step ?_ (by with_reducible assumption)) | (with_reducible refine Below.alloc ?_ ?_ _) | (with_reducible refine Below.drew ?_) | (with_reducible refine below_drewN ?_ _) | (with_reducible refine Below.setCell ?_ ?_ _) | (with_reducible refine below_step ?_ (by with_reducible assumption) ?_) | (with_reducible exact Nat.le_refl _) | omega | (simp; omega) | (simp; done))))
          replace KA := KA.step (show Below w7.heap.size w7 w8 by (repeat' (first | (with_reducible exact Below.refl _ _) | (with_reducible assumption) | (with_reducible exact Bw.out (by with_reducible assumption)) | (with_reducible refine bw_alloc ?_ _) | (with_reducible refine bw_step ?_ (by with_reducible assumption)) | (with_reducible refine Below.alloc ?_ ?_ _) | (with_reducible refine Below.drew ?_) | (with_reducible refine below_drewN ?_ _) | (with_reducible refine Below.setCell ?_ ?_ _) | (with_reducible refine below_step ?_ (by with_reducible assumption) ?_) | (with_reducible exact Nat.le_refl _) | omega | (simp; omega) | (simp; done))))
          replace KB := KB.step (show Below w7.heap.size w7 w8 by (repeat' (first | (with_reducible exact Below.refl _ _) | (with_reducible assumption) | (with_reducible exact Bw.out (by with_reducible assumption)) | (with_reducible refine bw_alloc ?_ _) | (with_reducible refine bw_step ?_ (by with_reducible assumption)) | (with_reducible refine Below.alloc ?_ ?_ _) | (with_reducible refine Below.drew ?_) | (with_reducible refine below_drewN ?_ _) | (with_reducible refine Below.setCell ?_ ?_ _) | (with_reducible refine below_step ?_ (by with_reducible assumption) ?_) | (with_reducible exact Nat.le_refl _) | omega | (simp; omega) | (simp; done))))
          have HB8 : Below w.heap.size w w8 := by (repeat' (first | (with_reducible exact Below.refl _ _) | (with_reducible assumption) | (with_reducible exact Bw.out (by with_reducible assumption)) | (with_reducible refine bw_alloc ?_ _) | (with_reducible refine bw_step ?_ (by with_reducible assumption)) | (with_reducible refine Below.alloc ?_ ?_ _) | (with_reducible refine Below.drew ?_) | (with_reducible refine below_drewN ?_ _) | (with_reducible refine Below.setCell ?_ ?_ _) | (with_reducible refine below_step ?_ (by with_reducible assumption) ?_) | (with_reducible exact Nat.le_refl _) | omega | (simp; omega) | (simp; done)))
          clear R_n_7 c_n_0_7 c_n_1_7 c_n_2_7 R_x_7 c_x_0_7 c_x_1_7 c_x_2_7 R_y_7 c_y_0_7 c_y_1_7 c_y_2_7 hb7 HB7
          clear hM1 hD1
          go_wp2_with fail
          go_loopw [9, 99] (fun up i wr => ∃ k : Nat, k ≤ n ∧ i = .int .i64 k ∧ up = .bool true ∧ Hid (w8 = wr)) (fun _ i _ => n - (intOf i).toNat)
          case atStart => exact ⟨0, Nat.zero_le _, rfl, rfl, by first | exact trivial | exact Lib.hid rfl⟩
          case round =>
            obtain ⟨k, hk, rfl, rfl, hW⟩ := hrel
            have hW2 : w8 = wr := hW.out
            subst hW2
            by_cases hlt : k < n
            · obtain ⟨b0, off0, d0, hpa0, _, cd0, gd0, _, _⟩ := Z5.sl.get hlt
              obtain ⟨b1, off1, d1, hpa1, _, cd1, gd1, _, _⟩ := KA.sl.get hlt
              obtain ⟨b2, off2, d2, hpa2, _, cd2, gd2, _, _⟩ := KB.sl.get hlt
              obtain ⟨b3, off3, d3, hpa3, _, cd3, gd3, _, _⟩ := KC.sl.get hlt
              subst hpa0 hpa1 hpa2 hpa3
              have hpw := HPW.out k hlt
              rw [gd0.out, gd1.out, gd2.out, gd3.out] at hpw
              obtain ⟨v1, v2, v3⟩ := hpw
              have i1 : (0 : Int) ≤ (k : Int) := by omega
              have i2 : (k : Int) < (n : Int) := by omega
              clear gd0 gd1 gd2 gd3
              go_wp2_with fail
              go_roundw
              case rel => exact ⟨k + 1, by omega, by go_num, rfl, by first | exact trivial | exact hW⟩
              case measure => simp [intOf]; omega
            · obtain rfl : n = k := by omega
              clear hlt hk
              by_cases hsu : S ≤ n0 + m
              · have h1 := HS2.out hsu
                have h2 := HPS.out hsu
                have HE4 := Lib.hid h1.1
                have HZ4 := Lib.hid h1.2
                have HP4 := Lib.hid h2
                have HU4 : Hid (usA n0 S zs cN m = true) := by show _ = _; rw [HS3.out]; simpa using hsu
                clear h1 h2
                go_wp2_with fail
                refine (shares_any24 n0 S cN m a n cap zs _ (K5.step (by (repeat' (first | (with_reducible exact Below.refl _ _) | (with_reducible assumption) | (with_reducible exact Bw.out (by with_reducible assumption)) | (with_reducible refine bw_alloc ?_ _) | (with_reducible refine bw_step ?_ (by with_reducible assumption)) | (with_reducible refine Below.alloc ?_ ?_ _) | (with_reducible refine Below.drew ?_) | (with_reducible refine below_drewN ?_ _) | (with_reducible refine Below.setCell ?_ ?_ _) | (with_reducible refine below_step ?_ (by with_reducible assumption) ?_) | (with_reducible exact Nat.le_refl _) | omega | (simp; omega) | (simp; done))))) 0 ZS HE4.out HZ4.out n HLS.out true (by simp)).mono ?_
                rintro e w9 ⟨aS, cS, rfl, KS, hb9⟩
                have R_n_9 : Row w9 (w.heap.size) [.int .i64 n0, .int .i64 n1, .slice a n cap] := by (repeat' (first | (with_reducible assumption) | (with_reducible refine Row.new' _ _ _ (by first | rfl | (simp; done) | omega)) | (with_reducible refine Row.alloc ?_ _) | (with_reducible refine Row.drew ?_) | (with_reducible refine Row.drewN ?_ _) | (with_reducible refine Row.step ?_ (by with_reducible assumption)) | (with_reducible refine Row.set2' ?_ _ _; first | exact ⟨_, _, by with_reducible assumption⟩ | exact ⟨_, _, Row.alloc (by with_reducible assumption) _⟩ | exact ⟨_, _, Row.alloc (Row.alloc (by with_reducible assumption) _) _⟩) | (with_reducible refine Row.other ?_ (by first | omega | (simp; done) | (simp; omega)) _)))
                have c_n_0_9 := R_n_9.cell 0 rfl
                have c_n_1_9 := R_n_9.cell 1 rfl
                have c_n_2_9 := R_n_9.cell 2 rfl
                have l_n_9 := R_n_9.lt
                have R_x_9 : Row w9 (g_x) [.int .i64 (R), .int .i64 (n1), .slice a n cap] := by (repeat' (first | (with_reducible assumption) | (with_reducible refine Row.new' _ _ _ (by first | rfl | (simp; done) | omega)) | (with_reducible refine Row.alloc ?_ _) | (with_reducible refine Row.drew ?_) | (with_reducible refine Row.drewN ?_ _) | (with_reducible refine Row.step ?_ (by with_reducible assumption)) | (with_reducible refine Row.set2' ?_ _ _; first | exact ⟨_, _, by with_reducible assumption⟩ | exact ⟨_, _, Row.alloc (by with_reducible assumption) _⟩ | exact ⟨_, _, Row.alloc (Row.alloc (by with_reducible assumption) _) _⟩) | (with_reducible refine Row.other ?_ (by first | omega | (simp; done) | (simp; omega)) _)))
                have c_x_0_9 := R_x_9.cell 0 rfl
                have c_x_1_9 := R_x_9.cell 1 rfl
                have c_x_2_9 := R_x_9.cell 2 rfl
                have l_x_9 := R_x_9.lt
                have R_y_9 : Row w9 (g_y) [.int .i64 (n0), .int .i64 (S), .slice a n cap] := by (repeat' (first | (with_reducible assumption) | (with_reducible refine Row.new' _ _ _ (by first | rfl | (simp; done) | omega)) | (with_reducible refine Row.alloc ?_ _) | (with_reducible refine Row.drew ?_) | (with_reducible refine Row.drewN ?_ _) | (with_reducible refine Row.step ?_ (by with_reducible assumption)) | (with_reducible refine Row.set2' ?_ _ _; first | exact ⟨_, _, by with_reducible assumption⟩ | exact ⟨_, _, Row.alloc (by with_reducible assumption) _⟩ | exact ⟨_, _, Row.alloc (Row.alloc (by with_reducible assumption) _) _⟩) | (with_reducible refine Row.other ?_ (by first | omega | (simp; done) | (simp; omega)) _)))
                have c_y_0_9 := R_y_9.cell 0 rfl
                have c_y_1_9 := R_y_9.cell 1 rfl
                have c_y_2_9 := R_y_9.cell 2 rfl
                have l_y_9 := R_y_9.lt
                replace K5 := K5.step (show Below w8.heap.size w8 w9 by (repeat' (first | (with_reducible exact Below.refl _ _) | (with_reducible assumption) | (with_reducible exact Bw.out (by with_reducible assumption)) | (with_reducible refine bw_alloc ?_ _) | (with_reducible refine bw_step ?_ (by with_reducible assumption)) | (with_reducible refine Below.alloc ?_ ?_ _) | (with_reducible refine Below.drew ?_) | (with_reducible refine below_drewN ?_ _) | (with_reducible refine Below.setCell ?_ ?_ _) | (with_reducible refine below_step ?_ (by with_reducible assumption) ?_) | (with_reducible exact Nat.le_refl _) | omega | (simp; omega) | (simp; done))))
                replace Z5 := Z5.step (show Below w8.heap.size w8 w9 by (repeat' (first | (with_reducible exact Below.refl _ _) | (with_reducible assumption) | (with_reducible exact Bw.out (by with_reducible assumption)) | (with_reducible refine bw_alloc ?_ _) | (with_reducible refine bw_step ?_ (by with_reducible assumption)) | (with_reducible refine Below.alloc ?_ ?_ _) | (with_reducible refine Below.drew ?_) | (with_reducible refine below_drewN ?_ _) | (with_reducible refine Below.setCell ?_ ?_ _) | (with_reducible refine below_step ?_ (by with_reducible assumption) ?_) | (with_reducible exact Nat.le_refl _) | omega | (simp; omega) | (simp; done))))
                replace KA := KA.step (show Below w8.heap.size w8 w9 by (repeat' (first | (with_reducible exact Below.refl _ _) | (with_reducible assumption) | (with_reducible exact Bw.out (by with_reducible assumption)) | (with_reducible refine bw_alloc ?_ _) | (with_reducible refine bw_step ?_ (by with_reducible assumption)) | (with_reducible refine Below.alloc ?_ ?_ _) | (with_reducible refine Below.drew ?_) | (with_reducible refine below_drewN ?_ _) | (with_reducible refine Below.setCell ?_ ?_ _) | (with_reducible refine below_step ?_ (by with_reducible assumption) ?_) | (with_reducible exact Nat.le_refl _) | omega | (simp; omega) | (simp; done))))
                replace KB := KB.step (show Below w8.heap.size w8 w9 by (repeat' (first | (with_reducible exact Below.refl _ _) | (with_reducible assumption) | (with_reducible exact Bw.out (by with_reducible assumption)) | (with_reducible refine bw_alloc ?_ _) | (with_reducible refine bw_step ?_ (by with_reducible assumption)) | (with_reducible refine Below.alloc ?_ ?_ _) | (with_reducible refine Below.drew ?_) | (with_reducible refine below_drewN ?_ _) | (with_reducible refine Below.setCell ?_ ?_ _) | (with_reducible refine below_step ?_ (by with_reducible assumption) ?_) | (with_reducible exact Nat.le_refl _) | omega | (simp; omega) | (simp; done))))
                replace KC := KC.step (show Below w8.heap.size w8 w9 by (repeat' (first | (with_reducible exact Below.refl _ _) | (with_reducible assumption) | (with_reducible exact Bw.out (by with_reducible assumption)) | (with_reducible refine bw_alloc ?_ _) | (with_reducible refine bw_step ?_ (by with_reducible assumption)) | (with_reducible refine Below.alloc ?_ ?_ _) | (with_reducible refine Below.drew ?_) | (with_reducible refine below_drewN ?_ _) | (with_reducible refine Below.setCell ?_ ?_ _) | (with_reducible refine below_step ?_ (by with_reducible assumption) ?_) | (with_reducible exact Nat.le_refl _) | omega | (simp; omega) | (simp; done))))
                have HB9 : Below w.heap.size w w9 := by (repeat' (first | (with_reducible exact Below.refl _ _) | (with_reducible assumption) | (with_reducible exact Bw.out (by with_reducible assumption)) | (with_reducible refine bw_alloc ?_ _) | (with_reducible refine bw_step ?_ (by with_reducible assumption)) | (with_reducible refine Below.alloc ?_ ?_ _) | (with_reducible refine Below.drew ?_) | (with_reducible refine below_drewN ?_ _) | (with_reducible refine Below.setCell ?_ ?_ _) | (with_reducible refine below_step ?_ (by with_reducible assumption) ?_) | (with_reducible exact Nat.le_refl _) | omega | (simp; omega) | (simp; done)))
                clear R_n_8 c_n_0_8 c_n_1_8 c_n_2_8 R_x_8 c_x_0_8 c_x_1_8 c_x_2_8 R_y_8 c_y_0_8 c_y_1_8 c_y_2_8 hb8 HB8
                go_wp2_with fail
                refine (usable_any24 n0 S cN m a n cap zs _ (K5.step (by (repeat' (first | (with_reducible exact Below.refl _ _) | (with_reducible assumption) | (with_reducible exact Bw.out (by with_reducible assumption)) | (with_reducible refine bw_alloc ?_ _) | (with_reducible refine bw_step ?_ (by with_reducible assumption)) | (with_reducible refine Below.alloc ?_ ?_ _) | (with_reducible refine Below.drew ?_) | (with_reducible refine below_drewN ?_ _) | (with_reducible refine Below.setCell ?_ ?_ _) | (with_reducible refine below_step ?_ (by with_reducible assumption) ?_) | (with_reducible exact Nat.le_refl _) | omega | (simp; omega) | (simp; done))))) true HU4.out).mono ?_
                rintro e w10 ⟨rfl, hb10⟩
                have R_n_10 : Row w10 (w.heap.size) [.int .i64 n0, .int .i64 n1, .slice a n cap] := by (repeat' (first | (with_reducible assumption) | (with_reducible refine Row.new' _ _ _ (by first | rfl | (simp; done) | omega)) | (with_reducible refine Row.alloc ?_ _) | (with_reducible refine Row.drew ?_) | (with_reducible refine Row.drewN ?_ _) | (with_reducible refine Row.step ?_ (by with_reducible assumption)) | (with_reducible refine Row.set2' ?_ _ _; first | exact ⟨_, _, by with_reducible assumption⟩ | exact ⟨_, _, Row.alloc (by with_reducible assumption) _⟩ | exact ⟨_, _, Row.alloc (Row.alloc (by with_reducible assumption) _) _⟩) | (with_reducible refine Row.other ?_ (by first | omega | (simp; done) | (simp; omega)) _)))
                have c_n_0_10 := R_n_10.cell 0 rfl
                have c_n_1_10 := R_n_10.cell 1 rfl
                have c_n_2_10 := R_n_10.cell 2 rfl
                have l_n_10 := R_n_10.lt
                have R_x_10 : Row w10 (g_x) [.int .i64 (R), .int .i64 (n1), .slice a n cap] := by (repeat' (first | (with_reducible assumption) | (with_reducible refine Row.new' _ _ _ (by first | rfl | (simp; done) | omega)) | (with_reducible refine Row.alloc ?_ _) | (with_reducible refine Row.drew ?_) | (with_reducible refine Row.drewN ?_ _) | (with_reducible refine Row.step ?_ (by with_reducible assumption)) | (with_reducible refine Row.set2' ?_ _ _; first | exact ⟨_, _, by with_reducible assumption⟩ | exact ⟨_, _, Row.alloc (by with_reducible assumption) _⟩ | exact ⟨_, _, Row.alloc (Row.alloc (by with_reducible assumption) _) _⟩) | (with_reducible refine Row.other ?_ (by first | omega | (simp; done) | (simp; omega)) _)))
                have c_x_0_10 := R_x_10.cell 0 rfl
                have c_x_1_10 := R_x_10.cell 1 rfl
                have c_x_2_10 := R_x_10.cell 2 rfl
                have l_x_10 := R_x_10.lt
                have R_y_10 : Row w10 (g_y) [.int .i64 (n0), .int .i64 (S), .slice a n cap] := by (repeat' (first | (with_reducible assumption) | (with_reducible refine Row.new' _ _ _ (by first | rfl | (simp; done) | omega)) | (with_reducible refine Row.alloc ?_ _) | (with_reducible refine Row.drew ?_) | (with_reducible refine Row.drewN ?_ _) | (with_reducible refine Row.step ?_ (by with_reducible assumption)) | (with_reducible refine Row.set2' ?_ _ _; first | exact ⟨_, _, by with_reducible assumption⟩ | exact ⟨_, _, Row.alloc (by with_reducible assumption) _⟩ | exact ⟨_, _, Row.alloc (Row.alloc (by with_reducible assumption) _) _⟩) | (with_reducible refine Row.other ?_ (by first | omega | (simp; done) | (simp; omega)) _)))
                have c_y_0_10 := R_y_10.cell 0 rfl
                have c_y_1_10 := R_y_10.cell 1 rfl
                have c_y_2_10 := R_y_10.cell 2 rfl
                have l_y_10 := R_y_10.lt
                replace K5 := K5.step (show Below w9.heap.size w9 w10 by (repeat' (first | (with_reducible exact Below.refl _ _) | (with_reducible assumption) | (with_reducible exact Bw.out (by with_reducible assumption)) | (with_reducible refine bw_alloc ?_ _) | (with_reducible refine bw_step ?_ (by with_reducible assumption)) | (with_reducible refine Below.alloc ?_ ?_ _) | (with_reducible refine Below.drew ?_) | (with_reducible refine below_drewN ?_ _) | (with_reducible refine Below.setCell ?_ ?_ _) | (with_reducible refine below_step ?_ (by with_reducible assumption) ?_) | (with_reducible exact Nat.le_refl _) | omega | (simp; omega) | (simp; done))))
                replace Z5 := Z5.step (show Below w9.heap.size w9 w10 by (repeat' (first | (with_reducible exact Below.refl _ _) | (with_reducible assumption) | (with_reducible exact Bw.out (by with_reducible assumption)) | (with_reducible refine bw_alloc ?_ _) | (with_reducible refine bw_step ?_ (by with_reducible assumption)) | (with_reducible refine Below.alloc ?_ ?_ _) | (with_reducible refine Below.drew ?_) | (with_reducible refine below_drewN ?_ _) | (with_reducible refine Below.setCell ?_ ?_ _) | (with_reducible refine below_step ?_ (by with_reducible assumption) ?_) | (with_reducible exact Nat.le_refl _) | omega | (simp; omega) | (simp; done))))
                replace KA := KA.step (show Below w9.heap.size w9 w10 by (repeat' (first | (with_reducible exact Below.refl _ _) | (with_reducible assumption) | (with_reducible exact Bw.out (by with_reducible assumption)) | (with_reducible refine bw_alloc ?_ _) | (with_reducible refine bw_step ?_ (by with_reducible assumption)) | (with_reducible refine Below.alloc ?_ ?_ _) | (with_reducible refine Below.drew ?_) | (with_reducible refine below_drewN ?_ _) | (with_reducible refine Below.setCell ?_ ?_ _) | (with_reducible refine below_step ?_ (by with_reducible assumption) ?_) | (with_reducible exact Nat.le_refl _) | omega | (simp; omega) | (simp; done))))
                replace KB := KB.step (show Below w9.heap.size w9 w10 by (repeat' (first | (with_reducible exact Below.refl _ _) | (with_reducible assumption) | (with_reducible exact Bw.out (by with_reducible assumption)) | (with_reducible refine bw_alloc ?_ _) | (with_reducible refine bw_step ?_ (by with_reducible assumption)) | (with_reducible refine Below.alloc ?_ ?_ _) | (with_reducible refine Below.drew ?_) | (with_reducible refine below_drewN ?_ _) | (with_reducible refine Below.setCell ?_ ?_ _) | (with_reducible refine below_step ?_ (by with_reducible assumption) ?_) | (with_reducible exact Nat.le_refl _) | omega | (simp; omega) | (simp; done))))
                replace KC := KC.step (show Below w9.heap.size w9 w10 by (repeat' (first | (with_reducible exact Below.refl _ _) | (with_reducible assumption) | (with_reducible exact Bw.out (by with_reducible assumption)) | (with_reducible refine bw_alloc ?_ _) | (with_reducible refine bw_step ?_ (by with_reducible assumption)) | (with_reducible refine Below.alloc ?_ ?_ _) | (with_reducible refine Below.drew ?_) | (with_reducible refine below_drewN ?_ _) | (with_reducible refine Below.setCell ?_ ?_ _) | (with_reducible refine below_step ?_ (by with_reducible assumption) ?_) | (with_reducible exact Nat.le_refl _) | omega | (simp; omega) | (simp; done))))
                replace KS := KS.step (show Below w9.heap.size w9 w10 by (repeat' (first | (with_reducible exact Below.refl _ _) | (with_reducible assumption) | (with_reducible exact Bw.out (by with_reducible assumption)) | (with_reducible refine bw_alloc ?_ _) | (with_reducible refine bw_step ?_ (by with_reducible assumption)) | (with_reducible refine Below.alloc ?_ ?_ _) | (with_reducible refine Below.drew ?_) | (with_reducible refine below_drewN ?_ _) | (with_reducible refine Below.setCell ?_ ?_ _) | (with_reducible refine below_step ?_ (by with_reducible assumption) ?_) | (with_reducible exact Nat.le_refl _) | omega | (simp; omega) | (simp; done))))
                have HB10 : Below w.heap.size w w10 := by (repeat' (first | (with_reducible exact Below.refl _ _) | (with_reducible assumption) | (with_reducible exact Bw.out (by with_reducible assumption)) | (with_reducible refine bw_alloc ?_ _) | (with_reducible refine bw_step ?_ (by with_reducible assumption)) | (with_reducible refine Below.alloc ?_ ?_ _) | (with_reducible refine Below.drew ?_) | (with_reducible refine below_drewN ?_ _) | (with_reducible refine Below.setCell ?_ ?_ _) | (with_reducible refine below_step ?_ (by with_reducible assumption) ?_) | (with_reducible exact Nat.le_refl _) | omega | (simp; omega) | (simp; done)))
                clear R_n_9 c_n_0_9 c_n_1_9 c_n_2_9 R_x_9 c_x_0_9 c_x_1_9 c_x_2_9 R_y_9 c_y_0_9 c_y_1_9 c_y_2_9 hb9 HB9
                have HB10' := Lib.hid HB10
                go_wp2_with fail
                go_loopw [9, 154] (fun up i wr => ∃ k : Nat, k ≤ n ∧ i = .int .i64 k ∧ up = .bool true ∧ Hid (w10 = wr)) (fun _ i _ => n - (intOf i).toNat)
                case atStart => exact ⟨0, Nat.zero_le _, rfl, rfl, by first | exact trivial | exact Lib.hid rfl⟩
                case round =>
                  obtain ⟨k, hk, rfl, rfl, hW⟩ := hrel
                  have hW2 : w10 = wr := hW.out
                  subst hW2
                  by_cases hlt : k < n
                  · obtain ⟨b0, off0, d0, hpa0, _, cd0, gd0, _, _⟩ := Z5.sl.get hlt
                    obtain ⟨b1, off1, d1, hpa1, _, cd1, gd1, _, _⟩ := KS.sl.get hlt
                    subst hpa0 hpa1
                    have hpw := HP4.out k hlt
                    rw [gd0.out, gd1.out] at hpw
                    have i1 : (0 : Int) ≤ (k : Int) := by omega
                    have i2 : (k : Int) < (n : Int) := by omega
                    clear gd0 gd1
                    go_wp2_with fail
                    go_roundw
                    case rel => exact ⟨k + 1, by omega, by go_num, rfl, by first | exact trivial | exact hW⟩
                    case measure => simp [intOf]; omega
                  · go_wp2_with fail
                    go_ret
                    exact ⟨rfl, HB10'.out⟩
              · have h1 := HS1.out (by omega)
                have HE4 := Lib.hid h1.1
                have HZ4 := Lib.hid h1.2
                have HU4 : Hid (usA n0 S zs cN m = false) := by show _ = _; rw [HS3.out]; simpa using hsu
                clear h1
                go_wp2_with fail
                refine (shares_any24 n0 S cN m a n cap zs _ (K5.step (by (repeat' (first | (with_reducible exact Below.refl _ _) | (with_reducible assumption) | (with_reducible exact Bw.out (by with_reducible assumption)) | (with_reducible refine bw_alloc ?_ _) | (with_reducible refine bw_step ?_ (by with_reducible assumption)) | (with_reducible refine Below.alloc ?_ ?_ _) | (with_reducible refine Below.drew ?_) | (with_reducible refine below_drewN ?_ _) | (with_reducible refine Below.setCell ?_ ?_ _) | (with_reducible refine below_step ?_ (by with_reducible assumption) ?_) | (with_reducible exact Nat.le_refl _) | omega | (simp; omega) | (simp; done))))) 33 [] HE4.out HZ4.out 0 rfl false (by simp)).mono ?_
                rintro e w9 ⟨aS, cS, rfl, KS, hb9⟩
                have R_n_9 : Row w9 (w.heap.size) [.int .i64 n0, .int .i64 n1, .slice a n cap] := by (repeat' (first | (with_reducible assumption) | (with_reducible refine Row.new' _ _ _ (by first | rfl | (simp; done) | omega)) | (with_reducible refine Row.alloc ?_ _) | (with_reducible refine Row.drew ?_) | (with_reducible refine Row.drewN ?_ _) | (with_reducible refine Row.step ?_ (by with_reducible assumption)) | (with_reducible refine Row.set2' ?_ _ _; first | exact ⟨_, _, by with_reducible assumption⟩ | exact ⟨_, _, Row.alloc (by with_reducible assumption) _⟩ | exact ⟨_, _, Row.alloc (Row.alloc (by with_reducible assumption) _) _⟩) | (with_reducible refine Row.other ?_ (by first | omega | (simp; done) | (simp; omega)) _)))
                have c_n_0_9 := R_n_9.cell 0 rfl
                have c_n_1_9 := R_n_9.cell 1 rfl
                have c_n_2_9 := R_n_9.cell 2 rfl
                have l_n_9 := R_n_9.lt
                have R_x_9 : Row w9 (g_x) [.int .i64 (R), .int .i64 (n1), .slice a n cap] := by (repeat' (first | (with_reducible assumption) | (with_reducible refine Row.new' _ _ _ (by first | rfl | (simp; done) | omega)) | (with_reducible refine Row.alloc ?_ _) | (with_reducible refine Row.drew ?_) | (with_reducible refine Row.drewN ?_ _) | (with_reducible refine Row.step ?_ (by with_reducible assumption)) | (with_reducible refine Row.set2' ?_ _ _; first | exact ⟨_, _, by with_reducible assumption⟩ | exact ⟨_, _, Row.alloc (by with_reducible assumption) _⟩ | exact ⟨_, _, Row.alloc (Row.alloc (by with_reducible assumption) _) _⟩) | (with_reducible refine Row.other ?_ (by first | omega | (simp; done) | (simp; omega)) _)))
                have c_x_0_9 := R_x_9.cell 0 rfl
                have c_x_1_9 := R_x_9.cell 1 rfl
                have c_x_2_9 := R_x_9.cell 2 rfl
                have l_x_9 := R_x_9.lt
                have R_y_9 : Row w9 (g_y) [.int .i64 (n0), .int .i64 (S), .slice a n cap] := by (repeat' (first | (with_reducible assumption) | (with_reducible refine Row.new' _ _ _ (by first | rfl | (simp; done) | omega)) | (with_reducible refine Row.alloc ?_ _) | (with_reducible refine Row.drew ?_) | (with_reducible refine Row.drewN ?_ _) | (with_reducible refine Row.step ?_ (by with_reducible assumption)) | (with_reducible refine Row.set2' ?_ _ _; first | exact ⟨_, _, by with_reducible assumption⟩ | exact ⟨_, _, Row.alloc (by with_reducible assumption) _⟩ | exact ⟨_, _, Row.alloc (Row.alloc (by with_reducible assumption) _) _⟩) | (with_reducible refine Row.other ?_ (by first | omega | (simp; done) | (simp; omega)) _)))
                have c_y_0_9 := R_y_9.cell 0 rfl
                have c_y_1_9 := R_y_9.cell 1 rfl
                have c_y_2_9 := R_y_9.cell 2 rfl
                have l_y_9 := R_y_9.lt
                replace K5 := K5.step (show Below w8.heap.size w8 w9 by (repeat' (first | (with_reducible exact Below.refl _ _) | (with_reducible assumption) | (with_reducible exact Bw.out (by with_reducible assumption)) | (with_reducible refine bw_alloc ?_ _) | (with_reducible refine bw_step ?_ (by with_reducible assumption)) | (with_reducible refine Below.alloc ?_ ?_ _) | (with_reducible refine Below.drew ?_) | (with_reducible refine below_drewN ?_ _) | (with_reducible refine Below.setCell ?_ ?_ _) | (with_reducible refine below_step ?_ (by with_reducible assumption) ?_) | (with_reducible exact Nat.le_refl _) | omega | (simp; omega) | (simp; done))))
                replace Z5 := Z5.step (show Below w8.heap.size w8 w9 by (repeat' (first | (with_reducible exact Below.refl _ _) | (with_reducible assumption) | (with_reducible exact Bw.out (by with_reducible assumption)) | (with_reducible refine bw_alloc ?_ _) | (with_reducible refine bw_step ?_ (by with_reducible assumption)) | (with_reducible refine Below.alloc ?_ ?_ _) | (with_reducible refine Below.drew ?_) | (with_reducible refine below_drewN ?_ _) | (with_reducible refine Below.setCell ?_ ?_ _) | (with_reducible refine below_step ?_ (by with_reducible assumption) ?_) | (with_reducible exact Nat.le_refl _) | omega | (simp; omega) | (simp; done))))
                replace KA := KA.step (show Below w8.heap.size w8 w9 by (repeat' (first | (with_reducible exact Below.refl _ _) | (with_reducible assumption) | (with_reducible exact Bw.out (by with_reducible assumption)) | (with_reducible refine bw_alloc ?_ _) | (with_reducible refine bw_step ?_ (by with_reducible assumption)) | (with_reducible refine Below.alloc ?_ ?_ _) | (with_reducible refine Below.drew ?_) | (with_reducible refine below_drewN ?_ _) | (with_reducible refine Below.setCell ?_ ?_ _) | (with_reducible refine below_step ?_ (by with_reducible assumption) ?_) | (with_reducible exact Nat.le_refl _) | omega | (simp; omega) | (simp; done))))
                replace KB := KB.step (show Below w8.heap.size w8 w9 by (repeat' (first | (with_reducible exact Below.refl _ _) | (with_reducible assumption) | (with_reducible exact Bw.out (by with_reducible assumption)) | (with_reducible refine bw_alloc ?_ _) | (with_reducible refine bw_step ?_ (by with_reducible assumption)) | (with_reducible refine Below.alloc ?_ ?_ _) | (with_reducible refine Below.drew ?_) | (with_reducible refine below_drewN ?_ _) | (with_reducible refine Below.setCell ?_ ?_ _) | (with_reducible refine below_step ?_ (by with_reducible assumption) ?_) | (with_reducible exact Nat.le_refl _) | omega | (simp; omega) | (simp; done))))
                replace KC := KC.step (show Below w8.heap.size w8 w9 by (repeat' (first | (with_reducible exact Below.refl _ _) | (with_reducible assumption) | (with_reducible exact Bw.out (by with_reducible assumption)) | (with_reducible refine bw_alloc ?_ _) | (with_reducible refine bw_step ?_ (by with_reducible assumption)) | (with_reducible refine Below.alloc ?_ ?_ _) | (with_reducible refine Below.drew ?_) | (with_reducible refine below_drewN ?_ _) | (with_reducible refine Below.setCell ?_ ?_ _) | (with_reducible refine below_step ?_ (by with_reducible assumption) ?_) | (with_reducible exact Nat.le_refl _) | omega | (simp; omega) | (simp; done))))
                have HB9 : Below w.heap.size w w9 := by (repeat' (first | (with_reducible exact Below.refl _ _) | (with_reducible assumption) | (with_reducible exact Bw.out (by with_reducible assumption)) | (with_reducible refine bw_alloc ?_ _) | (with_reducible refine bw_step ?_ (by with_reducible assumption)) | (with_reducible refine Below.alloc ?_ ?_ _) | (with_reducible refine Below.drew ?_) | (with_reducible refine below_drewN ?_ _) | (with_reducible refine Below.setCell ?_ ?_ _) | (with_reducible refine below_step ?_ (by with_reducible assumption) ?_) | (with_reducible exact Nat.le_refl _) | omega | (simp; omega) | (simp; done)))
                clear R_n_8 c_n_0_8 c_n_1_8 c_n_2_8 R_x_8 c_x_0_8 c_x_1_8 c_x_2_8 R_y_8 c_y_0_8 c_y_1_8 c_y_2_8 hb8 HB8
                go_wp2_with fail
                refine (usable_any24 n0 S cN m a n cap zs _ (K5.step (by (repeat' (first | (with_reducible exact Below.refl _ _) | (with_reducible assumption) | (with_reducible exact Bw.out (by with_reducible assumption)) | (with_reducible refine bw_alloc ?_ _) | (with_reducible refine bw_step ?_ (by with_reducible assumption)) | (with_reducible refine Below.alloc ?_ ?_ _) | (with_reducible refine Below.drew ?_) | (with_reducible refine below_drewN ?_ _) | (with_reducible refine Below.setCell ?_ ?_ _) | (with_reducible refine below_step ?_ (by with_reducible assumption) ?_) | (with_reducible exact Nat.le_refl _) | omega | (simp; omega) | (simp; done))))) false HU4.out).mono ?_
                rintro e w10 ⟨rfl, hb10⟩
                have R_n_10 : Row w10 (w.heap.size) [.int .i64 n0, .int .i64 n1, .slice a n cap] := by (repeat' (first | (with_reducible assumption) | (with_reducible refine Row.new' _ _ _ (by first | rfl | (simp; done) | omega)) | (with_reducible refine Row.alloc ?_ _) | (with_reducible refine Row.drew ?_) | (with_reducible refine Row.drewN ?_ _) | (with_reducible refine Row.step ?_ (by with_reducible assumption)) | (with_reducible refine Row.set2' ?_ _ _; first | exact ⟨_, _, by with_reducible assumption⟩ | exact ⟨_, _, Row.alloc (by with_reducible assumption) _⟩ | exact ⟨_, _, Row.alloc (Row.alloc (by with_reducible assumption) _) _⟩) | (with_reducible refine Row.other ?_ (by first | omega | (simp; done) | (simp; omega)) _)))
                have c_n_0_10 := R_n_10.cell 0 rfl
                have c_n_1_10 := R_n_10.cell 1 rfl
                have c_n_2_10 := R_n_10.cell 2 rfl
                have l_n_10 := R_n_10.lt
                have R_x_10 : Row w10 (g_x) [.int .i64 (R), .int .i64 (n1), .slice a n cap] := by (repeat' (first | (with_reducible assumption) | (with_reducible refine Row.new' _ _ _ (by first | rfl | (simp; done) | omega)) | (with_reducible refine Row.alloc ?_ _) | (with_reducible refine Row.drew ?_) | (with_reducible refine Row.drewN ?_ _) | (with_reducible refine Row.step ?_ (by with_reducible assumption)) | (with_reducible refine Row.set2' ?_ _ _; first | exact ⟨_, _, by with_reducible assumption⟩ | exact ⟨_, _, Row.alloc (by with_reducible assumption) _⟩ | exact ⟨_, _, Row.alloc (Row.alloc (by with_reducible assumption) _) _⟩) | (with_reducible refine Row.other ?_ (by first | omega | (simp; done) | (simp; omega)) _)))
                have c_x_0_10 := R_x_10.cell 0 rfl
                have c_x_1_10 := R_x_10.cell 1 rfl
                have c_x_2_10 := R_x_10.cell 2 rfl
                have l_x_10 := R_x_10.lt
                have R_y_10 : Row w10 (g_y) [.int .i64 (n0), .int .i64 (S), .slice a n cap] := by (repeat' (first | (with_reducible assumption) | (with_reducible refine Row.new' _ _ _ (by first | rfl | (simp; done) | omega)) | (with_reducible refine Row.alloc ?_ _) | (with_reducible refine Row.drew ?_) | (with_reducible refine Row.drewN ?_ _) | (with_reducible refine Row.step ?_ (by with_reducible assumption)) | (with_reducible refine Row.set2' ?_ _ _; first | exact ⟨_, _, by with_reducible assumption⟩ | exact ⟨_, _, Row.alloc (by with_reducible assumption) _⟩ | exact ⟨_, _, Row.alloc (Row.alloc (by with_reducible assumption) _) _⟩) | (with_reducible refine Row.other ?_ (by first | omega | (simp; done) | (simp; omega)) _)))
                have c_y_0_10 := R_y_10.cell 0 rfl
                have c_y_1_10 := R_y_10.cell 1 rfl
                have c_y_2_10 := R_y_10.cell 2 rfl
                have l_y_10 := R_y_10.lt
                replace K5 := K5.step (show Below w9.heap.size w9 w10 by (repeat' (first | (with_reducible exact Below.refl _ _) | (with_reducible assumption) | (with_reducible exact Bw.out (by with_reducible assumption)) | (with_reducible refine bw_alloc ?_ _) | (with_reducible refine bw_step ?_ (by with_reducible assumption)) | (with_reducible refine Below.alloc ?_ ?_ _) | (with_reducible refine Below.drew ?_) | (with_reducible refine below_drewN ?_ _) | (with_reducible refine Below.setCell ?_ ?_ _) | (with_reducible refine below_step ?_ (by with_reducible assumption) ?_) | (with_reducible exact Nat.le_refl _) | omega | (simp; omega) | (simp; done))))
                replace Z5 := Z5.step (show Below w9.heap.size w9 w10 by (repeat' (first | (with_reducible exact Below.refl _ _) | (with_reducible assumption) | (with_reducible exact Bw.out (by with_reducible assumption)) | (with_reducible refine bw_alloc ?_ _) | (with_reducible refine bw_step ?_ (by with_reducible assumption)) | (with_reducible refine Below.alloc ?_ ?_ _) | (with_reducible refine Below.drew ?_) | (with_reducible refine below_drewN ?_ _) | (with_reducible refine Below.setCell ?_ ?_ _) | (with_reducible refine below_step ?_ (by with_reducible assumption) ?_) | (with_reducible exact Nat.le_refl _) | omega | (simp; omega) | (simp; done))))
                replace KA := KA.step (show Below w9.heap.size w9 w10 by (repeat' (first | (with_reducible exact Below.refl _ _) | (with_reducible assumption) | (with_reducible exact Bw.out (by with_reducible assumption)) | (with_reducible refine bw_alloc ?_ _) | (with_reducible refine bw_step ?_ (by with_reducible assumption)) | (with_reducible refine Below.alloc ?_ ?_ _) | (with_reducible refine Below.drew ?_) | (with_reducible refine below_drewN ?_ _) | (with_reducible refine Below.setCell ?_ ?_ _) | (with_reducible refine below_step ?_ (by with_reducible assumption) ?_) | (with_reducible exact Nat.le_refl _) | omega | (simp; omega) | (simp; done))))
                replace KB := KB.step (show Below w9.heap.size w9 w10 by (repeat' (first | (with_reducible exact Below.refl _ _) | (with_reducible assumption) | (with_reducible exact Bw.out (by with_reducible assumption)) | (with_reducible refine bw_alloc ?_ _) | (with_reducible refine bw_step ?_ (by with_reducible assumption)) | (with_reducible refine Below.alloc ?_ ?_ _) | (with_reducible refine Below.drew ?_) | (with_reducible refine below_drewN ?_ _) | (with_reducible refine Below.setCell ?_ ?_ _) | (with_reducible refine below_step ?_ (by with_reducible assumption) ?_) | (with_reducible exact Nat.le_refl _) | omega | (simp; omega) | (simp; done))))
                replace KC := KC.step (show Below w9.heap.size w9 w10 by (repeat' (first | (with_reducible exact Below.refl _ _) | (with_reducible assumption) | (with_reducible exact Bw.out (by with_reducible assumption)) | (with_reducible refine bw_alloc ?_ _) | (with_reducible refine bw_step ?_ (by with_reducible assumption)) | (with_reducible refine Below.alloc ?_ ?_ _) | (with_reducible refine Below.drew ?_) | (with_reducible refine below_drewN ?_ _) | (with_reducible refine Below.setCell ?_ ?_ _) | (with_reducible refine below_step ?_ (by with_reducible assumption) ?_) | (with_reducible exact Nat.le_refl _) | omega | (simp; omega) | (simp; done))))
                have HB10 : Below w.heap.size w w10 := by (repeat' (first | (with_reducible exact Below.refl _ _) | (with_reducible assumption) | (with_reducible exact Bw.out (by with_reducible assumption)) | (with_reducible refine bw_alloc ?_ _) | (with_reducible refine bw_step ?_ (by with_reducible assumption)) | (with_reducible refine Below.alloc ?_ ?_ _) | (with_reducible refine Below.drew ?_) | (with_reducible refine below_drewN ?_ _) | (with_reducible refine Below.setCell ?_ ?_ _) | (with_reducible refine below_step ?_ (by with_reducible assumption) ?_) | (with_reducible exact Nat.le_refl _) | omega | (simp; omega) | (simp; done)))
                clear R_n_9 c_n_0_9 c_n_1_9 c_n_2_9 R_x_9 c_x_0_9 c_x_1_9 c_x_2_9 R_y_9 c_y_0_9 c_y_1_9 c_y_2_9 hb9 HB9
                go_wp2_with fail
                go_ret
                refine ⟨(by first | rfl | exact ret_bool (by first | rfl | (simp; done) | (simp; omega))), ?_⟩
                (repeat' (first | (with_reducible exact Below.refl _ _) | (with_reducible assumption) | (with_reducible exact Bw.out (by with_reducible assumption)) | (with_reducible refine bw_alloc ?_ _) | (with_reducible refine bw_step ?_ (by with_reducible assumption)) | (with_reducible refine Below.alloc ?_ ?_ _) | (with_reducible refine Below.drew ?_) | (with_reducible refine below_drewN ?_ _) | (with_reducible refine Below.setCell ?_ ?_ _) | (with_reducible refine below_step ?_ (by with_reducible assumption) ?_) | (with_reducible exact Nat.le_refl _) | omega | (simp; omega) | (simp; done)))


set_option maxRecDepth 100000 in
theorem allotMore_lifted (os : Os) (started : os.Started) (H : Type) (enc : TypeId × Value → H) :
    ReturnsInHanded {} Try.checked os 4 .any (Rows.allotMoreSpec.pre6 enc Try.prog Try.f4 Rows.allotMoreRow.domain false) (Rows.allotMoreSpec.post enc Try.prog Try.f4 false true false false) := by
  refine returnsInHanded_of_change (C := Try.checked) own started (by kernel_rfl) Try.func4
    (ChangeSpec.witness6 (enc := enc) (C := Try.checked) false ⟨#[], #[.agg #[.int .i64 0, .int .i64 0, .slice none 0 0], .int .i64 0, .int .i64 0, .int .u8 0], []⟩ 8 (by kernel_rfl) (by kernel_rfl) (by kernel_rfl) (by kernel_rfl)) ?_
  intro W base args ds gs before hval0 hW _ _
  have hval : ∀ (j : Nat) t v, Try.f4.params[j]? = some t → args[j]? = some v → Value.okWide Try.prog W .any base t v := hval0
  have hW' := hW
  obtain ⟨p, q, hA0, hV, rfl, hfz, hnd⟩ := hW
  obtain ⟨rfl, rfl⟩ := trodVars_none hV
  have hA : DataW.TrodAll enc Try.prog W 0 (fun _ => true) true Try.f4.params.toList args.toList ds p := hA0
  rw [Try.params4] at hA hval
  obtain ⟨v0, vs0, d0, ds0, p0, q0, hargs, rfl, rfl, h0, r0⟩ := trodAll_cons hA
  obtain ⟨v1, vs1, d1, ds1, p1, q1, rfl, rfl, rfl, h1, r1⟩ := trodAll_cons r0
  obtain ⟨v2, vs2, d2, ds2, p2, q2, rfl, rfl, rfl, h2, r2⟩ := trodAll_cons r1
  obtain ⟨v3, vs3, d3, ds3, p3, q3, rfl, rfl, rfl, h3, r3⟩ := trodAll_cons r2
  obtain ⟨rfl, rfl, rfl⟩ := trodAll_nil r3
  obtain rfl : args = #[v0, v1, v2, v3] := by cases args; simp_all
  obtain ⟨c00, c01, v_n, y00, y01, y02, m0, rfl, rfl, rfl, hy00, hy01, hy02⟩ := Go.Joins.open_agg3 Try.underlying24 (by kernel_rfl) (by kernel_rfl) (hval 0 24 v0 rfl rfl) h0
  obtain ⟨n0, e00, rfl, wn0⟩ := DataW.trod_int Try.underlying3 hy00
  simp only [List.cons.injEq, and_true] at e00
  subst e00
  obtain ⟨n1, e01, rfl, wn1⟩ := DataW.trod_int Try.underlying3 hy01
  simp only [List.cons.injEq, and_true] at e01
  subst e01
  obtain ⟨zs_n, hs_n, wf_n⟩ := slv_of_ints hy02
  obtain ⟨c, rfl, rfl, rfl, wc⟩ := open_int Try.underlying3 (hval 1 3 v1 rfl rfl) h1
  obtain ⟨m, rfl, rfl, rfl, wm⟩ := open_int Try.underlying3 (hval 2 3 v2 rfl rfl) h2
  obtain ⟨q, rfl, rfl, rfl, wq⟩ := open_int Try.underlying5 (hval 3 5 v3 rfl rfl) h3
  clear hA0 hval0
  refine (amore_walk n0 n1 v_n zs_n c m q wn0 wn1 wf_n wc wm wq W hs_n).mono fun e W' ⟨he, hb⟩ => ?_
  subst he
  exact ⟨_, rfl, law_post (B := 4) laidOut (by rw [Try.params4]; simp only [List.mem_cons, List.not_mem_nil, or_false, forall_eq_or_imp, forall_eq]; first | exact readable_allotMore | (repeat' apply And.intro) <;> first | exact of_decide_eq_true (by kernel_rfl) | kernel_rfl) rfl Try.underlying4 rfl rfl hW' hb⟩

theorem allotMore_over : Rows.allotMoreRow.holds Try.pinned (OpenSpec.ofChange Rows.allotMoreSpec) :=
  OpenClaim.holds_of_wide 4 Try.f4 rfl rfl rfl rfl rfl rfl rfl ⟨rfl, rfl, rfl, rfl, rfl⟩ rfl rfl rfl rfl rfl (by kernel_rfl) Try.func4 (by kernel_rfl)
    (of_decide_eq_true (by kernel_rfl)) (by unfold Func.isWrapper; first | (rw [if_pos (by decide +kernel)]; kernel_rfl) | (rw [if_neg (by decide +kernel)]; exact ⟨rfl, rfl⟩))
    (fun os started H enc _ => allotMore_lifted os started H enc)

theorem allotMore_holds : Rows.AllotMoreSaid := allotMore_over
#print axioms allotMore_holds
end Go.Proofs.Ytijbhdpaikajkaa
