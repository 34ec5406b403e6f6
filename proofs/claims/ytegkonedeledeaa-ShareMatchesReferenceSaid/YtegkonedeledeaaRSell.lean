/-
  The walk of the reference's Sell.
-/
import Derived.Test.YtegkonedeledeaaRWith
import Derived.Deep.RegionWith
namespace Go.Proofs.Ytegkonedeledeaa
set_option linter.unusedSimpArgs false
set_option linter.unusedVariables false
open Go.RowKit


set_option maxRecDepth 100000 in
set_option maxHeartbeats 6400000 in
theorem R_sell_any (rooms sold ch r : Int) (v : Value) (zs : List Int) (w : World) (hs : SlV w v zs) :
    Calls Try.prog 23 #[.agg #[.int .i64 rooms, .int .i64 sold, v], .int .i64 ch, .int .i64 r] w
      fun e w' => ∃ v', e = .returned (.tuple #[.agg #[.int .i64 (seR (seE rooms sold zs ch r) rooms), .int .i64 (seR (seE rooms sold zs ch r) (sold + r)), v'], .int .i64 (seE rooms sold zs ch r)]) ∧
        SlV w' v' (seZ (seE rooms sold zs ch r) zs ch r) ∧ Below w.heap.size w w' := by
  obtain ⟨a, cap, rfl, hs, hcap1, hcap2⟩ := hs
  unfold maxLen at hcap2
  have hm : zs.length ≤ 9223372036854775807 := by omega
  have HS := Lib.hid hs
  clear hs
  by_cases hA : nightB rooms sold zs = true ∧ (ch = -1 ∨ (0 ≤ ch ∧ ch < zs.length)) ∧ 0 ≤ r ∧ r ≤ 1000
  · obtain ⟨hn, hch, hr1, hr2⟩ := hA
    obtain ⟨p1, p2, ⟨p3, p4⟩, p5, p6⟩ := nightB_parts hn
    rcases hch with rfl | ⟨hc1, hc2⟩
    · by_cases hS : 1000 < sold + r
      · have eE : seE rooms sold zs (-1) r = 3 := by unfold seE; simp [hn, hr1, hr2, hS]
        rw [eE]
        simp only [seR, seZ, show ¬ (3 : Int) = 0 by omega, if_false]
        clear eE
        go_enter Try.func23, Try.ntmps23
        go_wp2_with fail
        refine (R_night_any _ _ _ _ _ zs _ hm (HS.out.below (by (repeat' (first | (with_reducible exact Below.refl _ _) | (with_reducible assumption) | (with_reducible exact Bw.out (by with_reducible assumption)) | (with_reducible refine bw_alloc ?_ _) | (with_reducible refine bw_step ?_ (by with_reducible assumption)) | (with_reducible refine Below.alloc ?_ ?_ _) | (with_reducible refine Below.drew ?_) | (with_reducible refine below_drewN ?_ _) | (with_reducible refine Below.setCell ?_ ?_ _) | (with_reducible refine below_step ?_ (by with_reducible assumption) ?_) | (with_reducible exact Nat.le_refl _) | omega | (simp; omega) | (simp; done)))))).mono ?_
        rintro e w1 ⟨rfl, hb1⟩
        have R_n_1 : Row w1 (w.heap.size) [.int .i64 rooms, .int .i64 sold, .slice a zs.length cap] := by (repeat' (first | (with_reducible assumption) | (with_reducible refine Row.new' _ _ _ (by first | rfl | (simp; done) | omega)) | (with_reducible refine Row.alloc ?_ _) | (with_reducible refine Row.drew ?_) | (with_reducible refine Row.drewN ?_ _) | (with_reducible refine Row.step ?_ (by with_reducible assumption)) | (with_reducible refine Row.set2' ?_ _ _; first | exact ⟨_, _, by with_reducible assumption⟩ | exact ⟨_, _, Row.alloc (by with_reducible assumption) _⟩ | exact ⟨_, _, Row.alloc (Row.alloc (by with_reducible assumption) _) _⟩) | (with_reducible refine Row.other ?_ (by first | omega | (simp; done) | (simp; omega)) _)))
        have c_n_0_1 := R_n_1.cell 0 rfl
        have c_n_1_1 := R_n_1.cell 1 rfl
        have c_n_2_1 := R_n_1.cell 2 rfl
        have z_n_0_1 := R_n_1.frozen 0
        have z_n_1_1 := R_n_1.frozen 1
        have z_n_2_1 := R_n_1.frozen 2
        have l_n_1 := R_n_1.lt
        have R_res_1 : Row w1 (w.heap.size + 1) [.int .i64 0, .int .i64 0, .slice none 0 0] := by (repeat' (first | (with_reducible assumption) | (with_reducible refine Row.new' _ _ _ (by first | rfl | (simp; done) | omega)) | (with_reducible refine Row.alloc ?_ _) | (with_reducible refine Row.drew ?_) | (with_reducible refine Row.drewN ?_ _) | (with_reducible refine Row.step ?_ (by with_reducible assumption)) | (with_reducible refine Row.set2' ?_ _ _; first | exact ⟨_, _, by with_reducible assumption⟩ | exact ⟨_, _, Row.alloc (by with_reducible assumption) _⟩ | exact ⟨_, _, Row.alloc (Row.alloc (by with_reducible assumption) _) _⟩) | (with_reducible refine Row.other ?_ (by first | omega | (simp; done) | (simp; omega)) _)))
        have c_res_0_1 := R_res_1.cell 0 rfl
        have c_res_1_1 := R_res_1.cell 1 rfl
        have c_res_2_1 := R_res_1.cell 2 rfl
        have z_res_0_1 := R_res_1.frozen 0
        have z_res_1_1 := R_res_1.frozen 1
        have z_res_2_1 := R_res_1.frozen 2
        have l_res_1 := R_res_1.lt
        have HB1 : Below w.heap.size w w1 := by (repeat' (first | (with_reducible exact Below.refl _ _) | (with_reducible assumption) | (with_reducible exact Bw.out (by with_reducible assumption)) | (with_reducible refine bw_alloc ?_ _) | (with_reducible refine bw_step ?_ (by with_reducible assumption)) | (with_reducible refine Below.alloc ?_ ?_ _) | (with_reducible refine Below.drew ?_) | (with_reducible refine below_drewN ?_ _) | (with_reducible refine Below.setCell ?_ ?_ _) | (with_reducible refine below_step ?_ (by with_reducible assumption) ?_) | (with_reducible exact Nat.le_refl _) | omega | (simp; omega) | (simp; done)))
        go_wp2_with fail
        refine bodyPost_ret (v := .tuple #[.agg #[.int .i64 0, .int .i64 0, .slice none 0 0], .int .i64 3]) (by simp [results, Try.results23, go_sem, c_res_0_1, c_res_1_1, c_res_2_1, l_res_1]) rfl ⟨_, rfl, SlV.nil _, ?_⟩
        (repeat' (first | (with_reducible exact Below.refl _ _) | (with_reducible assumption) | (with_reducible exact Bw.out (by with_reducible assumption)) | (with_reducible refine bw_alloc ?_ _) | (with_reducible refine bw_step ?_ (by with_reducible assumption)) | (with_reducible refine Below.alloc ?_ ?_ _) | (with_reducible refine Below.drew ?_) | (with_reducible refine below_drewN ?_ _) | (with_reducible refine Below.setCell ?_ ?_ _) | (with_reducible refine below_step ?_ (by with_reducible assumption) ?_) | (with_reducible exact Nat.le_refl _) | omega | (simp; omega) | (simp; done)))
      · have eE : seE rooms sold zs (-1) r = 0 := by unfold seE; simp [hn, hr1, hr2, hS]
        rw [eE]
        simp only [seR, seZ, if_true]
        clear eE
        go_enter Try.func23, Try.ntmps23
        go_wp2_with fail
        refine (R_night_any _ _ _ _ _ zs _ hm (HS.out.below (by (repeat' (first | (with_reducible exact Below.refl _ _) | (with_reducible assumption) | (with_reducible exact Bw.out (by with_reducible assumption)) | (with_reducible refine bw_alloc ?_ _) | (with_reducible refine bw_step ?_ (by with_reducible assumption)) | (with_reducible refine Below.alloc ?_ ?_ _) | (with_reducible refine Below.drew ?_) | (with_reducible refine below_drewN ?_ _) | (with_reducible refine Below.setCell ?_ ?_ _) | (with_reducible refine below_step ?_ (by with_reducible assumption) ?_) | (with_reducible exact Nat.le_refl _) | omega | (simp; omega) | (simp; done)))))).mono ?_
        rintro e w1 ⟨rfl, hb1⟩
        have R_n_1 : Row w1 (w.heap.size) [.int .i64 rooms, .int .i64 sold, .slice a zs.length cap] := by (repeat' (first | (with_reducible assumption) | (with_reducible refine Row.new' _ _ _ (by first | rfl | (simp; done) | omega)) | (with_reducible refine Row.alloc ?_ _) | (with_reducible refine Row.drew ?_) | (with_reducible refine Row.drewN ?_ _) | (with_reducible refine Row.step ?_ (by with_reducible assumption)) | (with_reducible refine Row.set2' ?_ _ _; first | exact ⟨_, _, by with_reducible assumption⟩ | exact ⟨_, _, Row.alloc (by with_reducible assumption) _⟩ | exact ⟨_, _, Row.alloc (Row.alloc (by with_reducible assumption) _) _⟩) | (with_reducible refine Row.other ?_ (by first | omega | (simp; done) | (simp; omega)) _)))
        have c_n_0_1 := R_n_1.cell 0 rfl
        have c_n_1_1 := R_n_1.cell 1 rfl
        have c_n_2_1 := R_n_1.cell 2 rfl
        have z_n_0_1 := R_n_1.frozen 0
        have z_n_1_1 := R_n_1.frozen 1
        have z_n_2_1 := R_n_1.frozen 2
        have l_n_1 := R_n_1.lt
        have R_res_1 : Row w1 (w.heap.size + 1) [.int .i64 0, .int .i64 0, .slice none 0 0] := by (repeat' (first | (with_reducible assumption) | (with_reducible refine Row.new' _ _ _ (by first | rfl | (simp; done) | omega)) | (with_reducible refine Row.alloc ?_ _) | (with_reducible refine Row.drew ?_) | (with_reducible refine Row.drewN ?_ _) | (with_reducible refine Row.step ?_ (by with_reducible assumption)) | (with_reducible refine Row.set2' ?_ _ _; first | exact ⟨_, _, by with_reducible assumption⟩ | exact ⟨_, _, Row.alloc (by with_reducible assumption) _⟩ | exact ⟨_, _, Row.alloc (Row.alloc (by with_reducible assumption) _) _⟩) | (with_reducible refine Row.other ?_ (by first | omega | (simp; done) | (simp; omega)) _)))
        have c_res_0_1 := R_res_1.cell 0 rfl
        have c_res_1_1 := R_res_1.cell 1 rfl
        have c_res_2_1 := R_res_1.cell 2 rfl
        have z_res_0_1 := R_res_1.frozen 0
        have z_res_1_1 := R_res_1.frozen 1
        have z_res_2_1 := R_res_1.frozen 2
        have l_res_1 := R_res_1.lt
        have HB1 : Below w.heap.size w w1 := by (repeat' (first | (with_reducible exact Below.refl _ _) | (with_reducible assumption) | (with_reducible exact Bw.out (by with_reducible assumption)) | (with_reducible refine bw_alloc ?_ _) | (with_reducible refine bw_step ?_ (by with_reducible assumption)) | (with_reducible refine Below.alloc ?_ ?_ _) | (with_reducible refine Below.drew ?_) | (with_reducible refine below_drewN ?_ _) | (with_reducible refine Below.setCell ?_ ?_ _) | (with_reducible refine below_step ?_ (by with_reducible assumption) ?_) | (with_reducible exact Nat.le_refl _) | omega | (simp; omega) | (simp; done)))
        go_wp2_with fail
        refine bodyPost_ret (v := .tuple #[.agg #[.int .i64 rooms, .int .i64 (sold + r), .slice a zs.length cap], .int .i64 0]) (by simp [results, Try.results23, go_sem, c_res_0_1, c_res_1_1, c_res_2_1, l_res_1]) rfl ⟨_, rfl, ⟨a, cap, rfl, SlI.below HS.out (by (repeat' (first | (with_reducible exact Below.refl _ _) | (with_reducible assumption) | (with_reducible exact Bw.out (by with_reducible assumption)) | (with_reducible refine bw_alloc ?_ _) | (with_reducible refine bw_step ?_ (by with_reducible assumption)) | (with_reducible refine Below.alloc ?_ ?_ _) | (with_reducible refine Below.drew ?_) | (with_reducible refine below_drewN ?_ _) | (with_reducible refine Below.setCell ?_ ?_ _) | (with_reducible refine below_step ?_ (by with_reducible assumption) ?_) | (with_reducible exact Nat.le_refl _) | omega | (simp; omega) | (simp; done)))), hcap1, hcap2⟩, ?_⟩
        (repeat' (first | (with_reducible exact Below.refl _ _) | (with_reducible assumption) | (with_reducible exact Bw.out (by with_reducible assumption)) | (with_reducible refine bw_alloc ?_ _) | (with_reducible refine bw_step ?_ (by with_reducible assumption)) | (with_reducible refine Below.alloc ?_ ?_ _) | (with_reducible refine Below.drew ?_) | (with_reducible refine below_drewN ?_ _) | (with_reducible refine Below.setCell ?_ ?_ _) | (with_reducible refine below_step ?_ (by with_reducible assumption) ?_) | (with_reducible exact Nat.le_refl _) | omega | (simp; omega) | (simp; done)))
    · obtain ⟨c, rfl⟩ := Int.eq_ofNat_of_zero_le hc1
      have hcn : c < zs.length := by omega
      obtain ⟨b, off, z, hab, hbl, cz, hz, _, hzm⟩ := HS.out.get hcn
      subst hab
      obtain ⟨z1, z2⟩ := p2 z hzm.out
      by_cases hf : z < r
      · have eE : seE rooms sold zs (c : Int) r = 31 := by
          unfold seE
          rw [if_pos ⟨hn, Or.inr ⟨by omega, by omega⟩, hr1, hr2⟩, if_pos ⟨by omega, by rw [Int.toNat_natCast, hz.out]; exact hf⟩]
        rw [eE]
        simp only [seR, seZ, show ¬ (31 : Int) = 0 by omega, if_false]
        clear eE hz
        go_enter Try.func23, Try.ntmps23
        go_wp2_with fail
        refine (R_night_any _ _ _ _ _ zs _ hm (HS.out.below (by (repeat' (first | (with_reducible exact Below.refl _ _) | (with_reducible assumption) | (with_reducible exact Bw.out (by with_reducible assumption)) | (with_reducible refine bw_alloc ?_ _) | (with_reducible refine bw_step ?_ (by with_reducible assumption)) | (with_reducible refine Below.alloc ?_ ?_ _) | (with_reducible refine Below.drew ?_) | (with_reducible refine below_drewN ?_ _) | (with_reducible refine Below.setCell ?_ ?_ _) | (with_reducible refine below_step ?_ (by with_reducible assumption) ?_) | (with_reducible exact Nat.le_refl _) | omega | (simp; omega) | (simp; done)))))).mono ?_
        rintro e w1 ⟨rfl, hb1⟩
        have R_n_1 : Row w1 (w.heap.size) [.int .i64 rooms, .int .i64 sold, .slice (some ⟨b, off, none⟩) zs.length cap] := by (repeat' (first | (with_reducible assumption) | (with_reducible refine Row.new' _ _ _ (by first | rfl | (simp; done) | omega)) | (with_reducible refine Row.alloc ?_ _) | (with_reducible refine Row.drew ?_) | (with_reducible refine Row.drewN ?_ _) | (with_reducible refine Row.step ?_ (by with_reducible assumption)) | (with_reducible refine Row.set2' ?_ _ _; first | exact ⟨_, _, by with_reducible assumption⟩ | exact ⟨_, _, Row.alloc (by with_reducible assumption) _⟩ | exact ⟨_, _, Row.alloc (Row.alloc (by with_reducible assumption) _) _⟩) | (with_reducible refine Row.other ?_ (by first | omega | (simp; done) | (simp; omega)) _)))
        have c_n_0_1 := R_n_1.cell 0 rfl
        have c_n_1_1 := R_n_1.cell 1 rfl
        have c_n_2_1 := R_n_1.cell 2 rfl
        have z_n_0_1 := R_n_1.frozen 0
        have z_n_1_1 := R_n_1.frozen 1
        have z_n_2_1 := R_n_1.frozen 2
        have l_n_1 := R_n_1.lt
        have R_res_1 : Row w1 (w.heap.size + 1) [.int .i64 0, .int .i64 0, .slice none 0 0] := by (repeat' (first | (with_reducible assumption) | (with_reducible refine Row.new' _ _ _ (by first | rfl | (simp; done) | omega)) | (with_reducible refine Row.alloc ?_ _) | (with_reducible refine Row.drew ?_) | (with_reducible refine Row.drewN ?_ _) | (with_reducible refine Row.step ?_ (by with_reducible assumption)) | (with_reducible refine Row.set2' ?_ _ _; first | exact ⟨_, _, by with_reducible assumption⟩ | exact ⟨_, _, Row.alloc (by with_reducible assumption) _⟩ | exact ⟨_, _, Row.alloc (Row.alloc (by with_reducible assumption) _) _⟩) | (with_reducible refine Row.other ?_ (by first | omega | (simp; done) | (simp; omega)) _)))
        have c_res_0_1 := R_res_1.cell 0 rfl
        have c_res_1_1 := R_res_1.cell 1 rfl
        have c_res_2_1 := R_res_1.cell 2 rfl
        have z_res_0_1 := R_res_1.frozen 0
        have z_res_1_1 := R_res_1.frozen 1
        have z_res_2_1 := R_res_1.frozen 2
        have l_res_1 := R_res_1.lt
        have HB1 : Below w.heap.size w w1 := by (repeat' (first | (with_reducible exact Below.refl _ _) | (with_reducible assumption) | (with_reducible exact Bw.out (by with_reducible assumption)) | (with_reducible refine bw_alloc ?_ _) | (with_reducible refine bw_step ?_ (by with_reducible assumption)) | (with_reducible refine Below.alloc ?_ ?_ _) | (with_reducible refine Below.drew ?_) | (with_reducible refine below_drewN ?_ _) | (with_reducible refine Below.setCell ?_ ?_ _) | (with_reducible refine below_step ?_ (by with_reducible assumption) ?_) | (with_reducible exact Nat.le_refl _) | omega | (simp; omega) | (simp; done)))
        have cz3 := (HB1.cell (p := ⟨b, off + c, none⟩) hbl).trans cz
        go_wp2_with fail
        refine bodyPost_ret (v := .tuple #[.agg #[.int .i64 0, .int .i64 0, .slice none 0 0], .int .i64 31]) (by simp [results, Try.results23, go_sem, c_res_0_1, c_res_1_1, c_res_2_1, l_res_1]) rfl ⟨_, rfl, SlV.nil _, ?_⟩
        (repeat' (first | (with_reducible exact Below.refl _ _) | (with_reducible assumption) | (with_reducible exact Bw.out (by with_reducible assumption)) | (with_reducible refine bw_alloc ?_ _) | (with_reducible refine bw_step ?_ (by with_reducible assumption)) | (with_reducible refine Below.alloc ?_ ?_ _) | (with_reducible refine Below.drew ?_) | (with_reducible refine below_drewN ?_ _) | (with_reducible refine Below.setCell ?_ ?_ _) | (with_reducible refine below_step ?_ (by with_reducible assumption) ?_) | (with_reducible exact Nat.le_refl _) | omega | (simp; omega) | (simp; done)))
      · by_cases hS : 1000 < sold + r
        · have eE : seE rooms sold zs (c : Int) r = 3 := by
            unfold seE
            rw [if_pos ⟨hn, Or.inr ⟨by omega, by omega⟩, hr1, hr2⟩, if_neg (by rw [Int.toNat_natCast, hz.out]; omega), if_pos hS]
          rw [eE]
          simp only [seR, seZ, show ¬ (3 : Int) = 0 by omega, if_false]
          clear eE hz
          go_enter Try.func23, Try.ntmps23
          go_wp2_with fail
          refine (R_night_any _ _ _ _ _ zs _ hm (HS.out.below (by (repeat' (first | (with_reducible exact Below.refl _ _) | (with_reducible assumption) | (with_reducible exact Bw.out (by with_reducible assumption)) | (with_reducible refine bw_alloc ?_ _) | (with_reducible refine bw_step ?_ (by with_reducible assumption)) | (with_reducible refine Below.alloc ?_ ?_ _) | (with_reducible refine Below.drew ?_) | (with_reducible refine below_drewN ?_ _) | (with_reducible refine Below.setCell ?_ ?_ _) | (with_reducible refine below_step ?_ (by with_reducible assumption) ?_) | (with_reducible exact Nat.le_refl _) | omega | (simp; omega) | (simp; done)))))).mono ?_
          rintro e w1 ⟨rfl, hb1⟩
          have R_n_1 : Row w1 (w.heap.size) [.int .i64 rooms, .int .i64 sold, .slice (some ⟨b, off, none⟩) zs.length cap] := by (repeat' (first | (with_reducible assumption) | (with_reducible refine Row.new' _ _ _ (by first | rfl | (simp; done) | omega)) | (with_reducible refine Row.alloc ?_ _) | (with_reducible refine Row.drew ?_) | (with_reducible refine Row.drewN ?_ _) | (with_reducible refine Row.step ?_ (by with_reducible assumption)) | (with_reducible refine Row.set2' ?_ _ _; first | exact ⟨_, _, by with_reducible assumption⟩ | exact ⟨_, _, Row.alloc (by with_reducible assumption) _⟩ | exact ⟨_, _, Row.alloc (Row.alloc (by with_reducible assumption) _) _⟩) | (with_reducible refine Row.other ?_ (by first | omega | (simp; done) | (simp; omega)) _)))
          have c_n_0_1 := R_n_1.cell 0 rfl
          have c_n_1_1 := R_n_1.cell 1 rfl
          have c_n_2_1 := R_n_1.cell 2 rfl
          have z_n_0_1 := R_n_1.frozen 0
          have z_n_1_1 := R_n_1.frozen 1
          have z_n_2_1 := R_n_1.frozen 2
          have l_n_1 := R_n_1.lt
          have R_res_1 : Row w1 (w.heap.size + 1) [.int .i64 0, .int .i64 0, .slice none 0 0] := by (repeat' (first | (with_reducible assumption) | (with_reducible refine Row.new' _ _ _ (by first | rfl | (simp; done) | omega)) | (with_reducible refine Row.alloc ?_ _) | (with_reducible refine Row.drew ?_) | (with_reducible refine Row.drewN ?_ _) | (with_reducible refine Row.step ?_ (by with_reducible assumption)) | (with_reducible refine Row.set2' ?_ _ _; first | exact ⟨_, _, by with_reducible assumption⟩ | exact ⟨_, _, Row.alloc (by with_reducible assumption) _⟩ | exact ⟨_, _, Row.alloc (Row.alloc (by with_reducible assumption) _) _⟩) | (with_reducible refine Row.other ?_ (by first | omega | (simp; done) | (simp; omega)) _)))
          have c_res_0_1 := R_res_1.cell 0 rfl
          have c_res_1_1 := R_res_1.cell 1 rfl
          have c_res_2_1 := R_res_1.cell 2 rfl
          have z_res_0_1 := R_res_1.frozen 0
          have z_res_1_1 := R_res_1.frozen 1
          have z_res_2_1 := R_res_1.frozen 2
          have l_res_1 := R_res_1.lt
          have HB1 : Below w.heap.size w w1 := by (repeat' (first | (with_reducible exact Below.refl _ _) | (with_reducible assumption) | (with_reducible exact Bw.out (by with_reducible assumption)) | (with_reducible refine bw_alloc ?_ _) | (with_reducible refine bw_step ?_ (by with_reducible assumption)) | (with_reducible refine Below.alloc ?_ ?_ _) | (with_reducible refine Below.drew ?_) | (with_reducible refine below_drewN ?_ _) | (with_reducible refine Below.setCell ?_ ?_ _) | (with_reducible refine below_step ?_ (by with_reducible assumption) ?_) | (with_reducible exact Nat.le_refl _) | omega | (simp; omega) | (simp; done)))
          have cz3 := (HB1.cell (p := ⟨b, off + c, none⟩) hbl).trans cz
          go_wp2_with fail
          refine bodyPost_ret (v := .tuple #[.agg #[.int .i64 0, .int .i64 0, .slice none 0 0], .int .i64 3]) (by simp [results, Try.results23, go_sem, c_res_0_1, c_res_1_1, c_res_2_1, l_res_1]) rfl ⟨_, rfl, SlV.nil _, ?_⟩
          (repeat' (first | (with_reducible exact Below.refl _ _) | (with_reducible assumption) | (with_reducible exact Bw.out (by with_reducible assumption)) | (with_reducible refine bw_alloc ?_ _) | (with_reducible refine bw_step ?_ (by with_reducible assumption)) | (with_reducible refine Below.alloc ?_ ?_ _) | (with_reducible refine Below.drew ?_) | (with_reducible refine below_drewN ?_ _) | (with_reducible refine Below.setCell ?_ ?_ _) | (with_reducible refine below_step ?_ (by with_reducible assumption) ?_) | (with_reducible exact Nat.le_refl _) | omega | (simp; omega) | (simp; done)))
        · have eE : seE rooms sold zs (c : Int) r = 0 := by
            unfold seE
            rw [if_pos ⟨hn, Or.inr ⟨by omega, by omega⟩, hr1, hr2⟩, if_neg (by rw [Int.toNat_natCast, hz.out]; omega), if_neg hS]
          rw [eE]
          simp only [seR, seZ, if_true]
          have eZ : Hid ((if (c : Int) = -1 then zs else zs.set (c : Int).toNat (zs.getD (c : Int).toNat 0 - r)) = zs.set c (z - r)) := by
            show _ = _
            rw [if_neg (by omega), Int.toNat_natCast, hz.out]
          rw [eZ.out]
          have hsl := HS.out.1
          have HLL := Lib.hid hsl
          clear eE hz hsl
          go_enter Try.func23, Try.ntmps23
          go_wp2_with fail
          refine (R_night_any _ _ _ _ _ zs _ hm (HS.out.below (by (repeat' (first | (with_reducible exact Below.refl _ _) | (with_reducible assumption) | (with_reducible exact Bw.out (by with_reducible assumption)) | (with_reducible refine bw_alloc ?_ _) | (with_reducible refine bw_step ?_ (by with_reducible assumption)) | (with_reducible refine Below.alloc ?_ ?_ _) | (with_reducible refine Below.drew ?_) | (with_reducible refine below_drewN ?_ _) | (with_reducible refine Below.setCell ?_ ?_ _) | (with_reducible refine below_step ?_ (by with_reducible assumption) ?_) | (with_reducible exact Nat.le_refl _) | omega | (simp; omega) | (simp; done)))))).mono ?_
          rintro e w1 ⟨rfl, hb1⟩
          have R_n_1 : Row w1 (w.heap.size) [.int .i64 rooms, .int .i64 sold, .slice (some ⟨b, off, none⟩) zs.length cap] := by (repeat' (first | (with_reducible assumption) | (with_reducible refine Row.new' _ _ _ (by first | rfl | (simp; done) | omega)) | (with_reducible refine Row.alloc ?_ _) | (with_reducible refine Row.drew ?_) | (with_reducible refine Row.drewN ?_ _) | (with_reducible refine Row.step ?_ (by with_reducible assumption)) | (with_reducible refine Row.set2' ?_ _ _; first | exact ⟨_, _, by with_reducible assumption⟩ | exact ⟨_, _, Row.alloc (by with_reducible assumption) _⟩ | exact ⟨_, _, Row.alloc (Row.alloc (by with_reducible assumption) _) _⟩) | (with_reducible refine Row.other ?_ (by first | omega | (simp; done) | (simp; omega)) _)))
          have c_n_0_1 := R_n_1.cell 0 rfl
          have c_n_1_1 := R_n_1.cell 1 rfl
          have c_n_2_1 := R_n_1.cell 2 rfl
          have z_n_0_1 := R_n_1.frozen 0
          have z_n_1_1 := R_n_1.frozen 1
          have z_n_2_1 := R_n_1.frozen 2
          have l_n_1 := R_n_1.lt
          have R_res_1 : Row w1 (w.heap.size + 1) [.int .i64 0, .int .i64 0, .slice none 0 0] := by (repeat' (first | (with_reducible assumption) | (with_reducible refine Row.new' _ _ _ (by first | rfl | (simp; done) | omega)) | (with_reducible refine Row.alloc ?_ _) | (with_reducible refine Row.drew ?_) | (with_reducible refine Row.drewN ?_ _) | (with_reducible refine Row.step ?_ (by with_reducible assumption)) | (with_reducible refine Row.set2' ?_ _ _; first | exact ⟨_, _, by with_reducible assumption⟩ | exact ⟨_, _, Row.alloc (by with_reducible assumption) _⟩ | exact ⟨_, _, Row.alloc (Row.alloc (by with_reducible assumption) _) _⟩) | (with_reducible refine Row.other ?_ (by first | omega | (simp; done) | (simp; omega)) _)))
          have c_res_0_1 := R_res_1.cell 0 rfl
          have c_res_1_1 := R_res_1.cell 1 rfl
          have c_res_2_1 := R_res_1.cell 2 rfl
          have z_res_0_1 := R_res_1.frozen 0
          have z_res_1_1 := R_res_1.frozen 1
          have z_res_2_1 := R_res_1.frozen 2
          have l_res_1 := R_res_1.lt
          have HB1 : Below w.heap.size w w1 := by (repeat' (first | (with_reducible exact Below.refl _ _) | (with_reducible assumption) | (with_reducible exact Bw.out (by with_reducible assumption)) | (with_reducible refine bw_alloc ?_ _) | (with_reducible refine bw_step ?_ (by with_reducible assumption)) | (with_reducible refine Below.alloc ?_ ?_ _) | (with_reducible refine Below.drew ?_) | (with_reducible refine below_drewN ?_ _) | (with_reducible refine Below.setCell ?_ ?_ _) | (with_reducible refine below_step ?_ (by with_reducible assumption) ?_) | (with_reducible exact Nat.le_refl _) | omega | (simp; omega) | (simp; done)))
          have cz3 := (HB1.cell (p := ⟨b, off + c, none⟩) hbl).trans cz
          have HS1 := Lib.hid (HS.out.below (w1 := w1.drew) (HB1.trans ((Below.drew (Below.refl _ _)).mono HB1.size)))
          have lb1 : b < w1.heap.size := by have := HB1.size; omega
          have hwz : IntKind.i64.wrap (z - r) = z - r := IntWalk.i64_in _ (by omega)
          go_wp2_with fail
          go_region_with ((go_at_call 55; (with_reducible refine (with_any rooms sold (z - r) b off _ _ c zs w1.drew (by omega) HS1.out hcn).mono ?_); rintro e wx ⟨g, cap2, rfl, hg, hv2, hv3, hv4, hbx⟩; have hbw : Below w1.heap.size w1 wx := (Below.drew (Below.refl w1.heap.size w1)).trans hbx; have Rx := R_n_1.step hbw; have x0 := Rx.cell 0 rfl; have x1 := Rx.cell 1 rfl; have x2 := Rx.cell 2 rfl; have xf0 := Rx.frozen 0; have xf1 := Rx.frozen 1; have xf2 := Rx.frozen 2; have xl := Rx.lt))
          all_goals (
            go_upto_region 10 with fail
            generalize hW5 : ((World.setCell _ ⟨w.heap.size, 0, none⟩ (.int .i64 rooms)).setCell ⟨w.heap.size, 1, none⟩ (.int .i64 sold)).setCell ⟨w.heap.size, 2, none⟩ (.slice (some ⟨g, 0, none⟩) zs.length cap2) = w5
            have hgw : w.heap.size + 1 < g := by have := HB1.size; simp at hg; omega
            have hbo : Below w.heap.size w wx := HB1.trans (hbw.mono HB1.size)
            have Rn5 : Row w5 w.heap.size [.int .i64 rooms, .int .i64 sold, .slice (some ⟨g, 0, none⟩) zs.length cap2] := by rw [← hW5]; exact Rx.set3 _ _ _
            have Rr5 : Row w5 (w.heap.size + 1) [.int .i64 0, .int .i64 0, .slice none 0 0] := by rw [← hW5]; exact (((R_res_1.step hbw).other (by simp) _).other (by simp) _).other (by simp) _
            have HB5 : Below w.heap.size w w5 := by rw [← hW5]; (repeat' (first | (with_reducible exact Below.refl _ _) | (with_reducible assumption) | (with_reducible exact Bw.out (by with_reducible assumption)) | (with_reducible refine bw_alloc ?_ _) | (with_reducible refine bw_step ?_ (by with_reducible assumption)) | (with_reducible refine Below.alloc ?_ ?_ _) | (with_reducible refine Below.drew ?_) | (with_reducible refine below_drewN ?_ _) | (with_reducible refine Below.setCell ?_ ?_ _) | (with_reducible refine below_step ?_ (by with_reducible assumption) ?_) | (with_reducible exact Nat.le_refl _) | omega | (simp; omega) | (simp; done)))
            have hv6 : Hid (OwnI w5 g (zs.set c (z - r))) := by
              show OwnI _ _ _
              rw [← hW5]
              exact ((hv2.other (by simp; omega) _).other (by simp; omega) _).other (by simp; omega) _
            clear hv2 Rx x0 x1 x2 xf0 xf1 xf2 xl hW5 hbw hbx hbo hg
            have y0 := Rn5.cell 0 rfl
            have y1 := Rn5.cell 1 rfl
            have y2 := Rn5.cell 2 rfl
            have yf := Rn5.frozen 1
            have yl := Rn5.lt
            have c_res_0_5 := Rr5.cell 0 rfl
            have c_res_1_5 := Rr5.cell 1 rfl
            have c_res_2_5 := Rr5.cell 2 rfl
            have f0 := Rr5.frozen 0
            have f1 := Rr5.frozen 1
            have f2 := Rr5.frozen 2
            have l_res_5 := Rr5.lt
            go_wp2_with fail
            refine bodyPost_ret (v := .tuple #[.agg #[.int .i64 rooms, .int .i64 (sold + r), .slice (some ⟨g, 0, none⟩) zs.length cap2], .int .i64 0]) (by simp [results, Try.results23, go_sem, c_res_0_5, c_res_1_5, c_res_2_5, l_res_5, y0, y1, y2, yl]) rfl ⟨_, rfl, ?_, ?_⟩
            · have hl : (zs.set c (z - r)).length = zs.length := List.length_set
              refine ⟨some ⟨g, 0, none⟩, cap2, by rw [hl], ?_, by rw [hl]; exact hv3, hv4⟩
              rw [hl]
              exact ((((hv6.out.other (by simp; omega) _).other (by simp; omega) _).other (by simp; omega) _).other (by simp; omega) _).sl hl
            · (repeat' (first | (with_reducible exact Below.refl _ _) | (with_reducible assumption) | (with_reducible exact Bw.out (by with_reducible assumption)) | (with_reducible refine bw_alloc ?_ _) | (with_reducible refine bw_step ?_ (by with_reducible assumption)) | (with_reducible refine Below.alloc ?_ ?_ _) | (with_reducible refine Below.drew ?_) | (with_reducible refine below_drewN ?_ _) | (with_reducible refine Below.setCell ?_ ?_ _) | (with_reducible refine below_step ?_ (by with_reducible assumption) ?_) | (with_reducible exact Nat.le_refl _) | omega | (simp; omega) | (simp; done))))
  · rw [seE_arg hA]
    simp only [seR, seZ, show ¬ (1 : Int) = 0 by omega, if_false]
    cases hn : nightB rooms sold zs with
    | false =>
      clear hA
      go_enter Try.func23, Try.ntmps23
      go_wp2_with fail
      refine (R_night_any _ _ _ _ _ zs _ hm (HS.out.below (by (repeat' (first | (with_reducible exact Below.refl _ _) | (with_reducible assumption) | (with_reducible exact Bw.out (by with_reducible assumption)) | (with_reducible refine bw_alloc ?_ _) | (with_reducible refine bw_step ?_ (by with_reducible assumption)) | (with_reducible refine Below.alloc ?_ ?_ _) | (with_reducible refine Below.drew ?_) | (with_reducible refine below_drewN ?_ _) | (with_reducible refine Below.setCell ?_ ?_ _) | (with_reducible refine below_step ?_ (by with_reducible assumption) ?_) | (with_reducible exact Nat.le_refl _) | omega | (simp; omega) | (simp; done)))))).mono ?_
      rintro e w1 ⟨rfl, hb1⟩
      have R_n_1 : Row w1 (w.heap.size) [.int .i64 rooms, .int .i64 sold, .slice a zs.length cap] := by (repeat' (first | (with_reducible assumption) | (with_reducible refine Row.new' _ _ _ (by first | rfl | (simp; done) | omega)) | (with_reducible refine Row.alloc ?_ _) | (with_reducible refine Row.drew ?_) | (with_reducible refine Row.drewN ?_ _) | (with_reducible refine Row.step ?_ (by with_reducible assumption)) | (with_reducible refine Row.set2' ?_ _ _; first | exact ⟨_, _, by with_reducible assumption⟩ | exact ⟨_, _, Row.alloc (by with_reducible assumption) _⟩ | exact ⟨_, _, Row.alloc (Row.alloc (by with_reducible assumption) _) _⟩) | (with_reducible refine Row.other ?_ (by first | omega | (simp; done) | (simp; omega)) _)))
      have c_n_0_1 := R_n_1.cell 0 rfl
      have c_n_1_1 := R_n_1.cell 1 rfl
      have c_n_2_1 := R_n_1.cell 2 rfl
      have z_n_0_1 := R_n_1.frozen 0
      have z_n_1_1 := R_n_1.frozen 1
      have z_n_2_1 := R_n_1.frozen 2
      have l_n_1 := R_n_1.lt
      have R_res_1 : Row w1 (w.heap.size + 1) [.int .i64 0, .int .i64 0, .slice none 0 0] := by (repeat' (first | (with_reducible assumption) | (with_reducible refine Row.new' _ _ _ (by first | rfl | (simp; done) | omega)) | (with_reducible refine Row.alloc ?_ _) | (with_reducible refine Row.drew ?_) | (with_reducible refine Row.drewN ?_ _) | (with_reducible refine Row.step ?_ (by with_reducible assumption)) | (with_reducible refine Row.set2' ?_ _ _; first | exact ⟨_, _, by with_reducible assumption⟩ | exact ⟨_, _, Row.alloc (by with_reducible assumption) _⟩ | exact ⟨_, _, Row.alloc (Row.alloc (by with_reducible assumption) _) _⟩) | (with_reducible refine Row.other ?_ (by first | omega | (simp; done) | (simp; omega)) _)))
      have c_res_0_1 := R_res_1.cell 0 rfl
      have c_res_1_1 := R_res_1.cell 1 rfl
      have c_res_2_1 := R_res_1.cell 2 rfl
      have z_res_0_1 := R_res_1.frozen 0
      have z_res_1_1 := R_res_1.frozen 1
      have z_res_2_1 := R_res_1.frozen 2
      have l_res_1 := R_res_1.lt
      have HB1 : Below w.heap.size w w1 := by (repeat' (first | (with_reducible exact Below.refl _ _) | (with_reducible assumption) | (with_reducible exact Bw.out (by with_reducible assumption)) | (with_reducible refine bw_alloc ?_ _) | (with_reducible refine bw_step ?_ (by with_reducible assumption)) | (with_reducible refine Below.alloc ?_ ?_ _) | (with_reducible refine Below.drew ?_) | (with_reducible refine below_drewN ?_ _) | (with_reducible refine Below.setCell ?_ ?_ _) | (with_reducible refine below_step ?_ (by with_reducible assumption) ?_) | (with_reducible exact Nat.le_refl _) | omega | (simp; omega) | (simp; done)))
      go_wp2_with fail
      refine bodyPost_ret (v := .tuple #[.agg #[.int .i64 0, .int .i64 0, .slice none 0 0], .int .i64 1]) (by simp [results, Try.results23, go_sem, c_res_0_1, c_res_1_1, c_res_2_1, l_res_1]) rfl ⟨_, rfl, SlV.nil _, ?_⟩
      (repeat' (first | (with_reducible exact Below.refl _ _) | (with_reducible assumption) | (with_reducible exact Bw.out (by with_reducible assumption)) | (with_reducible refine bw_alloc ?_ _) | (with_reducible refine bw_step ?_ (by with_reducible assumption)) | (with_reducible refine Below.alloc ?_ ?_ _) | (with_reducible refine Below.drew ?_) | (with_reducible refine below_drewN ?_ _) | (with_reducible refine Below.setCell ?_ ?_ _) | (with_reducible refine below_step ?_ (by with_reducible assumption) ?_) | (with_reducible exact Nat.le_refl _) | omega | (simp; omega) | (simp; done)))
    | true =>
      have hor : ch < -1 ∨ ((-1 ≤ ch ∧ (zs.length : Int) ≤ ch) ∨ (-1 ≤ ch ∧ ch < zs.length ∧ (r < 0 ∨ (0 ≤ r ∧ 1000 < r)))) := by
        by_cases h1 : ch < -1
        · exact Or.inl h1
        · by_cases h2 : (zs.length : Int) ≤ ch
          · exact Or.inr (Or.inl ⟨by omega, h2⟩)
          · refine Or.inr (Or.inr ⟨by omega, by omega, ?_⟩)
            have h3 : ¬ (0 ≤ r ∧ r ≤ 1000) := fun h => hA ⟨hn, by omega, h⟩
            omega
      clear hA
      rcases hor with h1 | ⟨h1, h2⟩ | ⟨h1, h2, h3 | ⟨h3, h4⟩⟩
      all_goals
        go_enter Try.func23, Try.ntmps23
        go_wp2_with fail
        refine (R_night_any _ _ _ _ _ zs _ hm (HS.out.below (by (repeat' (first | (with_reducible exact Below.refl _ _) | (with_reducible assumption) | (with_reducible exact Bw.out (by with_reducible assumption)) | (with_reducible refine bw_alloc ?_ _) | (with_reducible refine bw_step ?_ (by with_reducible assumption)) | (with_reducible refine Below.alloc ?_ ?_ _) | (with_reducible refine Below.drew ?_) | (with_reducible refine below_drewN ?_ _) | (with_reducible refine Below.setCell ?_ ?_ _) | (with_reducible refine below_step ?_ (by with_reducible assumption) ?_) | (with_reducible exact Nat.le_refl _) | omega | (simp; omega) | (simp; done)))))).mono ?_
        rintro e w1 ⟨rfl, hb1⟩
        have R_n_1 : Row w1 (w.heap.size) [.int .i64 rooms, .int .i64 sold, .slice a zs.length cap] := by (repeat' (first | (with_reducible assumption) | (with_reducible refine Row.new' _ _ _ (by first | rfl | (simp; done) | omega)) | (with_reducible refine Row.alloc ?_ _) | (with_reducible refine Row.drew ?_) | (with_reducible refine Row.drewN ?_ _) | (with_reducible refine Row.step ?_ (by with_reducible assumption)) | (with_reducible refine Row.set2' ?_ _ _; first | exact ⟨_, _, by with_reducible assumption⟩ | exact ⟨_, _, Row.alloc (by with_reducible assumption) _⟩ | exact ⟨_, _, Row.alloc (Row.alloc (by with_reducible assumption) _) _⟩) | (with_reducible refine Row.other ?_ (by first | omega | (simp; done) | (simp; omega)) _)))
        have c_n_0_1 := R_n_1.cell 0 rfl
        have c_n_1_1 := R_n_1.cell 1 rfl
        have c_n_2_1 := R_n_1.cell 2 rfl
        have z_n_0_1 := R_n_1.frozen 0
        have z_n_1_1 := R_n_1.frozen 1
        have z_n_2_1 := R_n_1.frozen 2
        have l_n_1 := R_n_1.lt
        have R_res_1 : Row w1 (w.heap.size + 1) [.int .i64 0, .int .i64 0, .slice none 0 0] := by (repeat' (first | (with_reducible assumption) | (with_reducible refine Row.new' _ _ _ (by first | rfl | (simp; done) | omega)) | (with_reducible refine Row.alloc ?_ _) | (with_reducible refine Row.drew ?_) | (with_reducible refine Row.drewN ?_ _) | (with_reducible refine Row.step ?_ (by with_reducible assumption)) | (with_reducible refine Row.set2' ?_ _ _; first | exact ⟨_, _, by with_reducible assumption⟩ | exact ⟨_, _, Row.alloc (by with_reducible assumption) _⟩ | exact ⟨_, _, Row.alloc (Row.alloc (by with_reducible assumption) _) _⟩) | (with_reducible refine Row.other ?_ (by first | omega | (simp; done) | (simp; omega)) _)))
        have c_res_0_1 := R_res_1.cell 0 rfl
        have c_res_1_1 := R_res_1.cell 1 rfl
        have c_res_2_1 := R_res_1.cell 2 rfl
        have z_res_0_1 := R_res_1.frozen 0
        have z_res_1_1 := R_res_1.frozen 1
        have z_res_2_1 := R_res_1.frozen 2
        have l_res_1 := R_res_1.lt
        have HB1 : Below w.heap.size w w1 := by (repeat' (first | (with_reducible exact Below.refl _ _) | (with_reducible assumption) | (with_reducible exact Bw.out (by with_reducible assumption)) | (with_reducible refine bw_alloc ?_ _) | (with_reducible refine bw_step ?_ (by with_reducible assumption)) | (with_reducible refine Below.alloc ?_ ?_ _) | (with_reducible refine Below.drew ?_) | (with_reducible refine below_drewN ?_ _) | (with_reducible refine Below.setCell ?_ ?_ _) | (with_reducible refine below_step ?_ (by with_reducible assumption) ?_) | (with_reducible exact Nat.le_refl _) | omega | (simp; omega) | (simp; done)))
        go_wp2_with fail
        refine bodyPost_ret (v := .tuple #[.agg #[.int .i64 0, .int .i64 0, .slice none 0 0], .int .i64 1]) (by simp [results, Try.results23, go_sem, c_res_0_1, c_res_1_1, c_res_2_1, l_res_1]) rfl ⟨_, rfl, SlV.nil _, ?_⟩
        (repeat' (first | (with_reducible exact Below.refl _ _) | (with_reducible assumption) | (with_reducible exact Bw.out (by with_reducible assumption)) | (with_reducible refine bw_alloc ?_ _) | (with_reducible refine bw_step ?_ (by with_reducible assumption)) | (with_reducible refine Below.alloc ?_ ?_ _) | (with_reducible refine Below.drew ?_) | (with_reducible refine below_drewN ?_ _) | (with_reducible refine Below.setCell ?_ ?_ _) | (with_reducible refine below_step ?_ (by with_reducible assumption) ?_) | (with_reducible exact Nat.le_refl _) | omega | (simp; omega) | (simp; done)))

end Go.Proofs.Ytegkonedeledeaa
