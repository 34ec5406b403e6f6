/-
  The walk of the reference's Grant.
-/
import Derived.Test.YtegkonedeledeaaRWith
import Derived.Deep.RegionWith
import Derived.Test.YtegkonedeledeaaTopD
namespace Go.Proofs.Ytegkonedeledeaa
set_option linter.unusedSimpArgs false
set_option linter.unusedVariables false
open Go.RowKit


set_option maxRecDepth 100000 in
set_option maxHeartbeats 6400000 in
theorem R_grant_any (rooms sold ch r : Int) (v : Value) (zs : List Int) (w : World) (hs : SlV w v zs) (hr : -9223372036854775808 ≤ r ∧ r ≤ 9223372036854775807) :
    Calls Try.prog 26 #[.agg #[.int .i64 rooms, .int .i64 sold, v], .int .i64 ch, .int .i64 r] w
      fun e w' => ∃ v', e = .returned (.tuple #[.agg #[.int .i64 (seR (grE rooms sold zs ch r) rooms), .int .i64 (seR (grE rooms sold zs ch r) sold), v'], .int .i64 (grE rooms sold zs ch r)]) ∧
        SlV w' v' (grZ (grE rooms sold zs ch r) zs ch r) ∧ NewV w.heap.size v' ∧ Below w.heap.size w w' := by
  obtain ⟨a, cap, rfl, hs, hcap1, hcap2⟩ := hs
  unfold maxLen at hcap2
  have hm : zs.length ≤ 9223372036854775807 := by omega
  have HS := Lib.hid hs
  clear hs
  by_cases hA : nightB rooms sold zs = true ∧ (0 ≤ ch ∧ ch < zs.length) ∧ -400 ≤ r ∧ r ≤ 400
  · obtain ⟨hn, ⟨hc1, hc2⟩, hr1, hr2⟩ := hA
    obtain ⟨p1, p2, ⟨p3, p4⟩, p5, p6⟩ := nightB_parts hn
    obtain ⟨c, rfl⟩ := Int.eq_ofNat_of_zero_le hc1
    have hcn : c < zs.length := by omega
    obtain ⟨b, off, z, hab, hbl, cz, hz, _, hzm⟩ := HS.out.get hcn
    subst hab
    obtain ⟨z1, z2⟩ := p2 z hzm.out
    by_cases hf : 0 ≤ z + r ∧ z + r ≤ 400
    · obtain ⟨f1, f2⟩ := hf
      have eE : grE rooms sold zs (c : Int) r = 0 := by
        unfold grE
        rw [if_pos ⟨hn, ⟨by omega, by omega⟩, hr1, hr2⟩, if_pos (by rw [Int.toNat_natCast, hz.out]; exact ⟨f1, f2⟩)]
      rw [eE]
      simp only [seR, grZ, if_true]
      have HZ := hz
      clear eE hz
      go_enter Try.func26, Try.ntmps26
      go_wp2_with fail
      refine (R_night_any _ _ _ _ _ zs _ hm (HS.out.below (by (repeat' (first | (with_reducible exact Below.refl _ _) | (with_reducible assumption) | (with_reducible exact Bw.out (by with_reducible assumption)) | (with_reducible refine bw_alloc ?_ _) | (with_reducible refine bw_step ?_ (by with_reducible assumption)) | (with_reducible refine Below.alloc ?_ ?_ _) | (with_reducible refine Below.drew ?_) | (with_reducible refine below_drewN ?_ _) | (with_reducible refine Below.setCell ?_ ?_ _) | (with_reducible refine below_step ?_ (by with_reducible assumption) ?_) | (with_reducible exact Nat.le_refl _) | omega | (simp; omega) | (simp; done)))))).mono ?_
      rintro e w1 ⟨rfl, hb1⟩
      have R_n_1 : Row w1 (w.heap.size) [.int .i64 rooms, .int .i64 sold, .slice (some ⟨b, off, none⟩) zs.length cap] := by (repeat' (first | (with_reducible assumption) | (with_reducible refine Row.new' _ _ _ (by first | rfl | (simp; done) | omega)) | (with_reducible refine Row.alloc ?_ _) | (with_reducible refine Row.drew ?_) | (with_reducible refine Row.drewN ?_ _) | (with_reducible refine Row.step ?_ (by with_reducible assumption)) | (with_reducible refine Row.set2' ?_ _ _; first | exact ⟨_, _, by with_reducible assumption⟩ | exact ⟨_, _, Row.alloc (by with_reducible assumption) _⟩ | exact ⟨_, _, Row.alloc (Row.alloc (by with_reducible assumption) _) _⟩) | (with_reducible refine Row.other ?_ (by first | omega | (simp; done) | (simp; omega)) _)))
      have c_n_0_1 := R_n_1.cell 0 rfl
      have c_n_1_1 := R_n_1.cell 1 rfl
      have c_n_2_1 := R_n_1.cell 2 rfl
      have z_n_0_1 := R_n_1.frozen 0
      have z_n_1_1 := R_n_1.frozen 1
      have z_n_2_1 := R_n_1.frozen 2
      have l_n_1 := R_n_1.lt
      have R_res_1 : Row w1 (w.heap.size + 1) [.int .i64 0, .int .i64 0, .slice none 0 0] := by (repeat' (first | (with_reducible assumption) | (with_reducible refine Row.new' _ _ _ (by first | rfl | (simp; done) | omega)) | (with_reducible refine Row.alloc ?_ _) | (with_reducible refine Row.drew ?_) | (with_reducible refine Row.drewN ?_ _) | (with_reducible refine Row.step ?_ (by with_reducible assumption)) | (with_reducible refine Row.set2' ?_ _ _; first | exact ⟨_, _, by with_reducible assumption⟩ | exact ⟨_, _, Row.alloc (by with_reducible assumption) _⟩ | exact ⟨_, _, Row.alloc (Row.alloc (by with_reducible assumption) _) _⟩) | (with_reducible refine Row.other ?_ (by first | omega | (simp; done) | (simp; omega)) _)))
      have c_res_0_1 := R_res_1.cell 0 rfl
      have c_res_1_1 := R_res_1.cell 1 rfl
      have c_res_2_1 := R_res_1.cell 2 rfl
      have z_res_0_1 := R_res_1.frozen 0
      have z_res_1_1 := R_res_1.frozen 1
      have z_res_2_1 := R_res_1.frozen 2
      have l_res_1 := R_res_1.lt
      have HB1 : Below w.heap.size w w1 := by (repeat' (first | (with_reducible exact Below.refl _ _) | (with_reducible assumption) | (with_reducible exact Bw.out (by with_reducible assumption)) | (with_reducible refine bw_alloc ?_ _) | (with_reducible refine bw_step ?_ (by with_reducible assumption)) | (with_reducible refine Below.alloc ?_ ?_ _) | (with_reducible refine Below.drew ?_) | (with_reducible refine below_drewN ?_ _) | (with_reducible refine Below.setCell ?_ ?_ _) | (with_reducible refine below_step ?_ (by with_reducible assumption) ?_) | (with_reducible exact Nat.le_refl _) | omega | (simp; omega) | (simp; done)))
      have cz3 := (HB1.cell (p := ⟨b, off + c, none⟩) hbl).trans cz
      have hw1 := HB1.size
      go_wp2_with fail
      refine (with_any rooms sold (z + r) b off _ _ c zs _ (by omega) (HS.out.below (by (repeat' (first | (with_reducible exact Below.refl _ _) | (with_reducible assumption) | (with_reducible exact Bw.out (by with_reducible assumption)) | (with_reducible refine bw_alloc ?_ _) | (with_reducible refine bw_step ?_ (by with_reducible assumption)) | (with_reducible refine Below.alloc ?_ ?_ _) | (with_reducible refine Below.drew ?_) | (with_reducible refine below_drewN ?_ _) | (with_reducible refine Below.setCell ?_ ?_ _) | (with_reducible refine below_step ?_ (by with_reducible assumption) ?_) | (with_reducible exact Nat.le_refl _) | omega | (simp; omega) | (simp; done))))) hcn).mono ?_
      rintro e w2 ⟨g, cap2, rfl, hg, hv2, hv3, hv4, hb2⟩
      have R_n_2 : Row w2 (w.heap.size) [.int .i64 rooms, .int .i64 sold, .slice (some ⟨b, off, none⟩) zs.length cap] := by (repeat' (first | (with_reducible assumption) | (with_reducible refine Row.new' _ _ _ (by first | rfl | (simp; done) | omega)) | (with_reducible refine Row.alloc ?_ _) | (with_reducible refine Row.drew ?_) | (with_reducible refine Row.drewN ?_ _) | (with_reducible refine Row.step ?_ (by with_reducible assumption)) | (with_reducible refine Row.set2' ?_ _ _; first | exact ⟨_, _, by with_reducible assumption⟩ | exact ⟨_, _, Row.alloc (by with_reducible assumption) _⟩ | exact ⟨_, _, Row.alloc (Row.alloc (by with_reducible assumption) _) _⟩) | (with_reducible refine Row.other ?_ (by first | omega | (simp; done) | (simp; omega)) _)))
      have c_n_0_2 := R_n_2.cell 0 rfl
      have c_n_1_2 := R_n_2.cell 1 rfl
      have c_n_2_2 := R_n_2.cell 2 rfl
      have z_n_0_2 := R_n_2.frozen 0
      have z_n_1_2 := R_n_2.frozen 1
      have z_n_2_2 := R_n_2.frozen 2
      have l_n_2 := R_n_2.lt
      have R_res_2 : Row w2 (w.heap.size + 1) [.int .i64 0, .int .i64 0, .slice none 0 0] := by (repeat' (first | (with_reducible assumption) | (with_reducible refine Row.new' _ _ _ (by first | rfl | (simp; done) | omega)) | (with_reducible refine Row.alloc ?_ _) | (with_reducible refine Row.drew ?_) | (with_reducible refine Row.drewN ?_ _) | (with_reducible refine Row.step ?_ (by with_reducible assumption)) | (with_reducible refine Row.set2' ?_ _ _; first | exact ⟨_, _, by with_reducible assumption⟩ | exact ⟨_, _, Row.alloc (by with_reducible assumption) _⟩ | exact ⟨_, _, Row.alloc (Row.alloc (by with_reducible assumption) _) _⟩) | (with_reducible refine Row.other ?_ (by first | omega | (simp; done) | (simp; omega)) _)))
      have c_res_0_2 := R_res_2.cell 0 rfl
      have c_res_1_2 := R_res_2.cell 1 rfl
      have c_res_2_2 := R_res_2.cell 2 rfl
      have z_res_0_2 := R_res_2.frozen 0
      have z_res_1_2 := R_res_2.frozen 1
      have z_res_2_2 := R_res_2.frozen 2
      have l_res_2 := R_res_2.lt
      have HB2 : Below w.heap.size w w2 := by (repeat' (first | (with_reducible exact Below.refl _ _) | (with_reducible assumption) | (with_reducible exact Bw.out (by with_reducible assumption)) | (with_reducible refine bw_alloc ?_ _) | (with_reducible refine bw_step ?_ (by with_reducible assumption)) | (with_reducible refine Below.alloc ?_ ?_ _) | (with_reducible refine Below.drew ?_) | (with_reducible refine below_drewN ?_ _) | (with_reducible refine Below.setCell ?_ ?_ _) | (with_reducible refine below_step ?_ (by with_reducible assumption) ?_) | (with_reducible exact Nat.le_refl _) | omega | (simp; omega) | (simp; done)))
      clear R_n_1 c_n_0_1 c_n_1_1 c_n_2_1 z_n_0_1 z_n_1_1 z_n_2_1 R_res_1 c_res_0_1 c_res_1_1 c_res_2_1 z_res_0_1 z_res_1_1 z_res_2_1 hb1 HB1
      go_wp2_with fail
      refine bodyPost_ret (v := .tuple #[.agg #[.int .i64 rooms, .int .i64 sold, .slice (some ⟨g, 0, none⟩) zs.length cap2], .int .i64 0]) (by simp [results, Try.results26, go_sem, c_res_0_2, c_res_1_2, c_res_2_2, l_res_2]) rfl ⟨_, rfl, ?_, NewV.at (by omega), ?_⟩
      · have e : zs.getD ((c : Int).toNat) 0 = z := by rw [Int.toNat_natCast]; exact HZ.out
        rw [e, Int.toNat_natCast]
        have hl : (zs.set c (z + r)).length = zs.length := List.length_set
        refine ⟨some ⟨g, 0, none⟩, cap2, by rw [hl], ?_, by rw [hl]; exact hv3, hv4⟩
        rw [hl]
        exact (((hv2.other (by simp; omega) _).other (by simp; omega) _).other (by simp; omega) _).sl hl
      · (repeat' (first | (with_reducible exact Below.refl _ _) | (with_reducible assumption) | (with_reducible exact Bw.out (by with_reducible assumption)) | (with_reducible refine bw_alloc ?_ _) | (with_reducible refine bw_step ?_ (by with_reducible assumption)) | (with_reducible refine Below.alloc ?_ ?_ _) | (with_reducible refine Below.drew ?_) | (with_reducible refine below_drewN ?_ _) | (with_reducible refine Below.setCell ?_ ?_ _) | (with_reducible refine below_step ?_ (by with_reducible assumption) ?_) | (with_reducible exact Nat.le_refl _) | omega | (simp; omega) | (simp; done)))
    · have hor : z + r < 0 ∨ (0 ≤ z + r ∧ 400 < z + r) := by omega
      have eE : grE rooms sold zs (c : Int) r = 3 := by
        unfold grE
        rw [if_pos ⟨hn, ⟨by omega, by omega⟩, hr1, hr2⟩, if_neg (by rw [Int.toNat_natCast, hz.out]; exact hf)]
      rw [eE]
      simp only [seR, grZ, show ¬ (3 : Int) = 0 by omega, if_false]
      clear eE hz hf
      rcases hor with h1 | ⟨h1, h2⟩
      all_goals
        go_enter Try.func26, Try.ntmps26
        go_wp2_with fail
        refine (R_night_any _ _ _ _ _ zs _ hm (HS.out.below (by (repeat' (first | (with_reducible exact Below.refl _ _) | (with_reducible assumption) | (with_reducible exact Bw.out (by with_reducible assumption)) | (with_reducible refine bw_alloc ?_ _) | (with_reducible refine bw_step ?_ (by with_reducible assumption)) | (with_reducible refine Below.alloc ?_ ?_ _) | (with_reducible refine Below.drew ?_) | (with_reducible refine below_drewN ?_ _) | (with_reducible refine Below.setCell ?_ ?_ _) | (with_reducible refine below_step ?_ (by with_reducible assumption) ?_) | (with_reducible exact Nat.le_refl _) | omega | (simp; omega) | (simp; done)))))).mono ?_
        rintro e w1 ⟨rfl, hb1⟩
        have R_n_1 : Row w1 (w.heap.size) [.int .i64 rooms, .int .i64 sold, .slice (some ⟨b, off, none⟩) zs.length cap] := by (repeat' (first | (with_reducible assumption) | (with_reducible refine Row.new' _ _ _ (by first | rfl | (simp; done) | omega)) | (with_reducible refine Row.alloc ?_ _) | (with_reducible refine Row.drew ?_) | (with_reducible refine Row.drewN ?_ _) | (with_reducible refine Row.step ?_ (by with_reducible assumption)) | (with_reducible refine Row.set2' ?_ _ _; first | exact ⟨_, _, by with_reducible assumption⟩ | exact ⟨_, _, Row.alloc (by with_reducible assumption) _⟩ | exact ⟨_, _, Row.alloc (Row.alloc (by with_reducible assumption) _) _⟩) | (with_reducible refine Row.other ?_ (by first | omega | (simp; done) | (simp; omega)) _)))
        have c_n_0_1 := R_n_1.cell 0 rfl
        have c_n_1_1 := R_n_1.cell 1 rfl
        have c_n_2_1 := R_n_1.cell 2 rfl
        have z_n_0_1 := R_n_1.frozen 0
        have z_n_1_1 := R_n_1.frozen 1
        have z_n_2_1 := R_n_1.frozen 2
        have l_n_1 := R_n_1.lt
        have R_res_1 : Row w1 (w.heap.size + 1) [.int .i64 0, .int .i64 0, .slice none 0 0] := by (repeat' (first | (with_reducible assumption) | (with_reducible refine Row.new' _ _ _ (by first | rfl | (simp; done) | omega)) | (with_reducible refine Row.alloc ?_ _) | (with_reducible refine Row.drew ?_) | (with_reducible refine Row.drewN ?_ _) | (with_reducible refine Row.step ?_ (by with_reducible assumption)) | (with_reducible refine Row.set2' ?_ _ _; first | exact ⟨_, _, by with_reducible assumption⟩ | exact ⟨_, _, Row.alloc (by with_reducible assumption) _⟩ | exact ⟨_, _, Row.alloc (Row.alloc (by with_reducible assumption) _) _⟩) | (with_reducible refine Row.other ?_ (by first | omega | (simp; done) | (simp; omega)) _)))
        have c_res_0_1 := R_res_1.cell 0 rfl
        have c_res_1_1 := R_res_1.cell 1 rfl
        have c_res_2_1 := R_res_1.cell 2 rfl
        have z_res_0_1 := R_res_1.frozen 0
        have z_res_1_1 := R_res_1.frozen 1
        have z_res_2_1 := R_res_1.frozen 2
        have l_res_1 := R_res_1.lt
        have HB1 : Below w.heap.size w w1 := by (repeat' (first | (with_reducible exact Below.refl _ _) | (with_reducible assumption) | (with_reducible exact Bw.out (by with_reducible assumption)) | (with_reducible refine bw_alloc ?_ _) | (with_reducible refine bw_step ?_ (by with_reducible assumption)) | (with_reducible refine Below.alloc ?_ ?_ _) | (with_reducible refine Below.drew ?_) | (with_reducible refine below_drewN ?_ _) | (with_reducible refine Below.setCell ?_ ?_ _) | (with_reducible refine below_step ?_ (by with_reducible assumption) ?_) | (with_reducible exact Nat.le_refl _) | omega | (simp; omega) | (simp; done)))
        have cz3 := (HB1.cell (p := ⟨b, off + c, none⟩) hbl).trans cz
        go_wp2_with fail
        refine bodyPost_ret (v := .tuple #[.agg #[.int .i64 0, .int .i64 0, .slice none 0 0], .int .i64 3]) (by simp [results, Try.results26, go_sem, c_res_0_1, c_res_1_1, c_res_2_1, l_res_1]) rfl ⟨_, rfl, SlV.nil _, NewV.nil _, ?_⟩
        (repeat' (first | (with_reducible exact Below.refl _ _) | (with_reducible assumption) | (with_reducible exact Bw.out (by with_reducible assumption)) | (with_reducible refine bw_alloc ?_ _) | (with_reducible refine bw_step ?_ (by with_reducible assumption)) | (with_reducible refine Below.alloc ?_ ?_ _) | (with_reducible refine Below.drew ?_) | (with_reducible refine below_drewN ?_ _) | (with_reducible refine Below.setCell ?_ ?_ _) | (with_reducible refine below_step ?_ (by with_reducible assumption) ?_) | (with_reducible exact Nat.le_refl _) | omega | (simp; omega) | (simp; done)))
  · rw [show grE rooms sold zs ch r = 1 from if_neg hA]
    simp only [seR, grZ, show ¬ (1 : Int) = 0 by omega, if_false]
    cases hn : nightB rooms sold zs with
    | false =>
      clear hA
      go_enter Try.func26, Try.ntmps26
      go_wp2_with fail
      refine (R_night_any _ _ _ _ _ zs _ hm (HS.out.below (by (repeat' (first | (with_reducible exact Below.refl _ _) | (with_reducible assumption) | (with_reducible exact Bw.out (by with_reducible assumption)) | (with_reducible refine bw_alloc ?_ _) | (with_reducible refine bw_step ?_ (by with_reducible assumption)) | (with_reducible refine Below.alloc ?_ ?_ _) | (with_reducible refine Below.drew ?_) | (with_reducible refine below_drewN ?_ _) | (with_reducible refine Below.setCell ?_ ?_ _) | (with_reducible refine below_step ?_ (by with_reducible assumption) ?_) | (with_reducible exact Nat.le_refl _) | omega | (simp; omega) | (simp; done)))))).mono ?_
      rintro e w1 ⟨rfl, hb1⟩
      have R_n_1 : Row w1 (w.heap.size) [.int .i64 rooms, .int .i64 sold, .slice a zs.length cap] := by (repeat' (first | (with_reducible assumption) | (with_reducible refine Row.new' _ _ _ (by first | rfl | (simp; done) | omega)) | (with_reducible refine Row.alloc ?_ _) | (with_reducible refine Row.drew ?_) | (with_reducible refine Row.drewN ?_ _) | (with_reducible refine Row.step ?_ (by with_reducible assumption)) | (with_reducible refine Row.set2' ?_ _ _; first | exact ⟨_, _, by with_reducible assumption⟩ | exact ⟨_, _, Row.alloc (by with_reducible assumption) _⟩ | exact ⟨_, _, Row.alloc (Row.alloc (by with_reducible assumption) _) _⟩) | (with_reducible refine Row.other ?_ (by first | omega | (simp; done) | (simp; omega)) _)))
      have c_n_0_1 := R_n_1.cell 0 rfl
      have c_n_1_1 := R_n_1.cell 1 rfl
      have c_n_2_1 := R_n_1.cell 2 rfl
      have z_n_0_1 := R_n_1.frozen 0
      have z_n_1_1 := R_n_1.frozen 1
      have z_n_2_1 := R_n_1.frozen 2
      have l_n_1 := R_n_1.lt
      have R_res_1 : Row w1 (w.heap.size + 1) [.int .i64 0, .int .i64 0, .slice none 0 0] := by (repeat' (first | (with_reducible assumption) | (with_reducible refine Row.new' _ _ _ (by first | rfl | (simp; done) | omega)) | (with_reducible refine Row.alloc ?_ _) | (with_reducible refine Row.drew ?_) | (with_reducible refine Row.drewN ?_ _) | (with_reducible refine Row.step ?_ (by with_reducible assumption)) | (with_reducible refine Row.set2' ?_ _ _; first | exact ⟨_, _, by with_reducible assumption⟩ | exact ⟨_, _, Row.alloc (by with_reducible assumption) _⟩ | exact ⟨_, _, Row.alloc (Row.alloc (by with_reducible assumption) _) _⟩) | (with_reducible refine Row.other ?_ (by first | omega | (simp; done) | (simp; omega)) _)))
      have c_res_0_1 := R_res_1.cell 0 rfl
      have c_res_1_1 := R_res_1.cell 1 rfl
      have c_res_2_1 := R_res_1.cell 2 rfl
      have z_res_0_1 := R_res_1.frozen 0
      have z_res_1_1 := R_res_1.frozen 1
      have z_res_2_1 := R_res_1.frozen 2
      have l_res_1 := R_res_1.lt
      have HB1 : Below w.heap.size w w1 := by (repeat' (first | (with_reducible exact Below.refl _ _) | (with_reducible assumption) | (with_reducible exact Bw.out (by with_reducible assumption)) | (with_reducible refine bw_alloc ?_ _) | (with_reducible refine bw_step ?_ (by with_reducible assumption)) | (with_reducible refine Below.alloc ?_ ?_ _) | (with_reducible refine Below.drew ?_) | (with_reducible refine below_drewN ?_ _) | (with_reducible refine Below.setCell ?_ ?_ _) | (with_reducible refine below_step ?_ (by with_reducible assumption) ?_) | (with_reducible exact Nat.le_refl _) | omega | (simp; omega) | (simp; done)))
      go_wp2_with fail
      refine bodyPost_ret (v := .tuple #[.agg #[.int .i64 0, .int .i64 0, .slice none 0 0], .int .i64 1]) (by simp [results, Try.results26, go_sem, c_res_0_1, c_res_1_1, c_res_2_1, l_res_1]) rfl ⟨_, rfl, SlV.nil _, NewV.nil _, ?_⟩
      (repeat' (first | (with_reducible exact Below.refl _ _) | (with_reducible assumption) | (with_reducible exact Bw.out (by with_reducible assumption)) | (with_reducible refine bw_alloc ?_ _) | (with_reducible refine bw_step ?_ (by with_reducible assumption)) | (with_reducible refine Below.alloc ?_ ?_ _) | (with_reducible refine Below.drew ?_) | (with_reducible refine below_drewN ?_ _) | (with_reducible refine Below.setCell ?_ ?_ _) | (with_reducible refine below_step ?_ (by with_reducible assumption) ?_) | (with_reducible exact Nat.le_refl _) | omega | (simp; omega) | (simp; done)))
    | true =>
      have hor : ch < 0 ∨ ((0 ≤ ch ∧ (zs.length : Int) ≤ ch) ∨ (0 ≤ ch ∧ ch < zs.length ∧ (r < -400 ∨ (-400 ≤ r ∧ 400 < r)))) := by
        by_cases h1 : ch < 0
        · exact Or.inl h1
        · by_cases h2 : (zs.length : Int) ≤ ch
          · exact Or.inr (Or.inl ⟨by omega, h2⟩)
          · refine Or.inr (Or.inr ⟨by omega, by omega, ?_⟩)
            have h3 : ¬ (-400 ≤ r ∧ r ≤ 400) := fun h => hA ⟨hn, by omega, h⟩
            omega
      clear hA
      rcases hor with h1 | ⟨h1, h2⟩ | ⟨h1, h2, h3 | ⟨h3, h4⟩⟩
      all_goals
        go_enter Try.func26, Try.ntmps26
        go_wp2_with fail
        refine (R_night_any _ _ _ _ _ zs _ hm (HS.out.below (by (repeat' (first | (with_reducible exact Below.refl _ _) | (with_reducible assumption) | (with_reducible exact Bw.out (by with_reducible assumption)) | (with_reducible refine bw_alloc ?_ _) | (with_reducible refine bw_step ?_ (by with_reducible assumption)) | (with_reducible refine Below.alloc ?_ ?_ _) | (with_reducible refine Below.drew ?_) | (with_reducible refine below_drewN ?_ _) | (with_reducible refine Below.setCell ?_ ?_ _) | (with_reducible refine below_step ?_ (by with_reducible assumption) ?_) | (with_reducible exact Nat.le_refl _) | omega | (simp; omega) | (simp; done)))))).mono ?_
        rintro e w1 ⟨rfl, hb1⟩
        have R_n_1 : Row w1 (w.heap.size) [.int .i64 rooms, .int .i64 sold, .slice a zs.length cap] := by (repeat' (first | (with_reducible assumption) | (with_reducible refine Row.new' _ _ _ (by first | rfl | (simp; done) | omega)) | (with_reducible refine Row.alloc ?_ _) | (with_reducible refine Row.drew ?_) | (with_reducible refine Row.drewN ?_ _) | (with_reducible refine Row.step ?_ (by with_reducible assumption)) | (with_reducible refine Row.set2' ?_ _ _; first | exact ⟨_, _, by with_reducible assumption⟩ | exact ⟨_, _, Row.alloc (by with_reducible assumption) _⟩ | exact ⟨_, _, Row.alloc (Row.alloc (by with_reducible assumption) _) _⟩) | (with_reducible refine Row.other ?_ (by first | omega | (simp; done) | (simp; omega)) _)))
        have c_n_0_1 := R_n_1.cell 0 rfl
        have c_n_1_1 := R_n_1.cell 1 rfl
        have c_n_2_1 := R_n_1.cell 2 rfl
        have z_n_0_1 := R_n_1.frozen 0
        have z_n_1_1 := R_n_1.frozen 1
        have z_n_2_1 := R_n_1.frozen 2
        have l_n_1 := R_n_1.lt
        have R_res_1 : Row w1 (w.heap.size + 1) [.int .i64 0, .int .i64 0, .slice none 0 0] := by (repeat' (first | (with_reducible assumption) | (with_reducible refine Row.new' _ _ _ (by first | rfl | (simp; done) | omega)) | (with_reducible refine Row.alloc ?_ _) | (with_reducible refine Row.drew ?_) | (with_reducible refine Row.drewN ?_ _) | (with_reducible refine Row.step ?_ (by with_reducible assumption)) | (with_reducible refine Row.set2' ?_ _ _; first | exact ⟨_, _, by with_reducible assumption⟩ | exact ⟨_, _, Row.alloc (by with_reducible assumption) _⟩ | exact ⟨_, _, Row.alloc (Row.alloc (by with_reducible assumption) _) _⟩) | (with_reducible refine Row.other ?_ (by first | omega | (simp; done) | (simp; omega)) _)))
        have c_res_0_1 := R_res_1.cell 0 rfl
        have c_res_1_1 := R_res_1.cell 1 rfl
        have c_res_2_1 := R_res_1.cell 2 rfl
        have z_res_0_1 := R_res_1.frozen 0
        have z_res_1_1 := R_res_1.frozen 1
        have z_res_2_1 := R_res_1.frozen 2
        have l_res_1 := R_res_1.lt
        have HB1 : Below w.heap.size w w1 := by (repeat' (first | (with_reducible exact Below.refl _ _) | (with_reducible assumption) | (with_reducible exact Bw.out (by with_reducible assumption)) | (with_reducible refine bw_alloc ?_ _) | (with_reducible refine bw_step ?_ (by with_reducible assumption)) | (with_reducible refine Below.alloc ?_ ?_ _) | (with_reducible refine Below.drew ?_) | (with_reducible refine below_drewN ?_ _) | (with_reducible refine Below.setCell ?_ ?_ _) | (with_reducible refine below_step ?_ (by with_reducible assumption) ?_) | (with_reducible exact Nat.le_refl _) | omega | (simp; omega) | (simp; done)))
        go_wp2_with fail
        refine bodyPost_ret (v := .tuple #[.agg #[.int .i64 0, .int .i64 0, .slice none 0 0], .int .i64 1]) (by simp [results, Try.results26, go_sem, c_res_0_1, c_res_1_1, c_res_2_1, l_res_1]) rfl ⟨_, rfl, SlV.nil _, NewV.nil _, ?_⟩
        (repeat' (first | (with_reducible exact Below.refl _ _) | (with_reducible assumption) | (with_reducible exact Bw.out (by with_reducible assumption)) | (with_reducible refine bw_alloc ?_ _) | (with_reducible refine bw_step ?_ (by with_reducible assumption)) | (with_reducible refine Below.alloc ?_ ?_ _) | (with_reducible refine Below.drew ?_) | (with_reducible refine below_drewN ?_ _) | (with_reducible refine Below.setCell ?_ ?_ _) | (with_reducible refine below_step ?_ (by with_reducible assumption) ?_) | (with_reducible exact Nat.le_refl _) | omega | (simp; omega) | (simp; done)))

end Go.Proofs.Ytegkonedeledeaa
