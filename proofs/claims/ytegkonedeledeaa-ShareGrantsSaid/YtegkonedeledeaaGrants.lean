/-
  ShareGrants: a grant changes one share alone, and what is granted can be taken back, to the same night.
  No condition: for every input.
-/
import Derived.Test.YtegkonedeledeaaShareI
import Derived.Deep.DeepCutAuto
namespace Go.Proofs.Ytegkonedeledeaa
set_option linter.unusedSimpArgs false
set_option linter.unusedVariables false
open Go.ChangeShapes Go.WideShapes Go.ChangeAt Go.RowKit


set_option maxRecDepth 100000 in
set_option maxHeartbeats 6400000 in
theorem grants_walk (n0 n1 : Int) (v : Value) (zs : List Int) (ch r : Int) (_ : (Lit.int .i64 n0).wf = true) (_ : (Lit.int .i64 n1).wf = true) (_ : ∀ z ∈ zs, -9223372036854775808 ≤ z ∧ z ≤ 9223372036854775807) (wc : (Lit.int .i64 ch).wf = true) (wr : (Lit.int .i64 r).wf = true) (w : World) (hv : SlV w v zs) :
    Calls Try.prog 7 #[.agg #[.int .i64 n0, .int .i64 n1, v], .int .i64 ch, .int .i64 r] w fun e w' => e = .returned (.bool true) ∧ Below w.heap.size w w' := by
  obtain ⟨a, cap, rfl, hcap1, hcap2, K⟩ := hv.c
  unfold maxLen at hcap2
  obtain ⟨r1, r2⟩ := bd_i64 wr
  clear hv wc wr
  by_cases hl : zs.length ≤ 30
  · cases hn : nightB n0 n1 zs with
    | false =>
      go_enter Try.func7, Try.ntmps7
      go_wp2_with fail
      refine (head_any _).mono ?_
      rintro e w1 ⟨rfl, hb1⟩
      have R_n_1 : Row w1 (w.heap.size) [.int .i64 n0, .int .i64 n1, .slice a zs.length cap] := by (repeat' (first | (with_reducible assumption) | (with_reducible refine Row.new' _ _ _ (by first | rfl | (simp; done) | omega)) | (with_reducible refine Row.alloc ?_ _) | (with_reducible refine Row.drew ?_) | (with_reducible refine Row.drewN ?_ _) | (with_reducible refine Row.step ?_ (by with_reducible assumption)) | (with_reducible refine Row.set2' ?_ _ _; first | exact ⟨_, _, by with_reducible assumption⟩ | exact ⟨_, _, Row.alloc (by with_reducible assumption) _⟩ | exact ⟨_, _, Row.alloc (Row.alloc (by with_reducible assumption) _) _⟩) | (with_reducible refine Row.other ?_ (by first | omega | (simp; done) | (simp; omega)) _)))
      have c_n_0_1 := R_n_1.cell 0 rfl
      have c_n_1_1 := R_n_1.cell 1 rfl
      have c_n_2_1 := R_n_1.cell 2 rfl
      have l_n_1 := R_n_1.lt
      replace K := K.step (show Below w.heap.size w w1 by (repeat' (first | (with_reducible exact Below.refl _ _) | (with_reducible assumption) | (with_reducible exact Bw.out (by with_reducible assumption)) | (with_reducible refine bw_alloc ?_ _) | (with_reducible refine bw_step ?_ (by with_reducible assumption)) | (with_reducible refine Below.alloc ?_ ?_ _) | (with_reducible refine Below.drew ?_) | (with_reducible refine below_drewN ?_ _) | (with_reducible refine Below.setCell ?_ ?_ _) | (with_reducible refine below_step ?_ (by with_reducible assumption) ?_) | (with_reducible exact Nat.le_refl _) | omega | (simp; omega) | (simp; done))))
      have HB1 : Below w.heap.size w w1 := by (repeat' (first | (with_reducible exact Below.refl _ _) | (with_reducible assumption) | (with_reducible exact Bw.out (by with_reducible assumption)) | (with_reducible refine bw_alloc ?_ _) | (with_reducible refine bw_step ?_ (by with_reducible assumption)) | (with_reducible refine Below.alloc ?_ ?_ _) | (with_reducible refine Below.drew ?_) | (with_reducible refine below_drewN ?_ _) | (with_reducible refine Below.setCell ?_ ?_ _) | (with_reducible refine below_step ?_ (by with_reducible assumption) ?_) | (with_reducible exact Nat.le_refl _) | omega | (simp; omega) | (simp; done)))
      go_wp2_with fail
      refine (R_night_any _ _ _ _ _ zs _ (by omega) (SlC.sl (K.step (by (repeat' (first | (with_reducible exact Below.refl _ _) | (with_reducible assumption) | (with_reducible exact Bw.out (by with_reducible assumption)) | (with_reducible refine bw_alloc ?_ _) | (with_reducible refine bw_step ?_ (by with_reducible assumption)) | (with_reducible refine Below.alloc ?_ ?_ _) | (with_reducible refine Below.drew ?_) | (with_reducible refine below_drewN ?_ _) | (with_reducible refine Below.setCell ?_ ?_ _) | (with_reducible refine below_step ?_ (by with_reducible assumption) ?_) | (with_reducible exact Nat.le_refl _) | omega | (simp; omega) | (simp; done))))))).mono ?_
      rintro e w2 ⟨rfl, hb2⟩
      have R_n_2 : Row w2 (w.heap.size) [.int .i64 n0, .int .i64 n1, .slice a zs.length cap] := by (repeat' (first | (with_reducible assumption) | (with_reducible refine Row.new' _ _ _ (by first | rfl | (simp; done) | omega)) | (with_reducible refine Row.alloc ?_ _) | (with_reducible refine Row.drew ?_) | (with_reducible refine Row.drewN ?_ _) | (with_reducible refine Row.step ?_ (by with_reducible assumption)) | (with_reducible refine Row.set2' ?_ _ _; first | exact ⟨_, _, by with_reducible assumption⟩ | exact ⟨_, _, Row.alloc (by with_reducible assumption) _⟩ | exact ⟨_, _, Row.alloc (Row.alloc (by with_reducible assumption) _) _⟩) | (with_reducible refine Row.other ?_ (by first | omega | (simp; done) | (simp; omega)) _)))
      have c_n_0_2 := R_n_2.cell 0 rfl
      have c_n_1_2 := R_n_2.cell 1 rfl
      have c_n_2_2 := R_n_2.cell 2 rfl
      have l_n_2 := R_n_2.lt
      replace K := K.step (show Below w1.heap.size w1 w2 by (repeat' (first | (with_reducible exact Below.refl _ _) | (with_reducible assumption) | (with_reducible exact Bw.out (by with_reducible assumption)) | (with_reducible refine bw_alloc ?_ _) | (with_reducible refine bw_step ?_ (by with_reducible assumption)) | (with_reducible refine Below.alloc ?_ ?_ _) | (with_reducible refine Below.drew ?_) | (with_reducible refine below_drewN ?_ _) | (with_reducible refine Below.setCell ?_ ?_ _) | (with_reducible refine below_step ?_ (by with_reducible assumption) ?_) | (with_reducible exact Nat.le_refl _) | omega | (simp; omega) | (simp; done))))
      have HB2 : Below w.heap.size w w2 := by (repeat' (first | (with_reducible exact Below.refl _ _) | (with_reducible assumption) | (with_reducible exact Bw.out (by with_reducible assumption)) | (with_reducible refine bw_alloc ?_ _) | (with_reducible refine bw_step ?_ (by with_reducible assumption)) | (with_reducible refine Below.alloc ?_ ?_ _) | (with_reducible refine Below.drew ?_) | (with_reducible refine below_drewN ?_ _) | (with_reducible refine Below.setCell ?_ ?_ _) | (with_reducible refine below_step ?_ (by with_reducible assumption) ?_) | (with_reducible exact Nat.le_refl _) | omega | (simp; omega) | (simp; done)))
      clear R_n_1 c_n_0_1 c_n_1_1 c_n_2_1 hb1 HB1
      go_wp2_with fail
      go_ret
      refine ⟨(by first | rfl | exact ret_bool (by first | rfl | (simp; done) | (simp; omega))), ?_⟩
      (repeat' (first | (with_reducible exact Below.refl _ _) | (with_reducible assumption) | (with_reducible exact Bw.out (by with_reducible assumption)) | (with_reducible refine bw_alloc ?_ _) | (with_reducible refine bw_step ?_ (by with_reducible assumption)) | (with_reducible refine Below.alloc ?_ ?_ _) | (with_reducible refine Below.drew ?_) | (with_reducible refine below_drewN ?_ _) | (with_reducible refine Below.setCell ?_ ?_ _) | (with_reducible refine below_step ?_ (by with_reducible assumption) ?_) | (with_reducible exact Nat.le_refl _) | omega | (simp; omega) | (simp; done)))
    | true =>
      obtain ⟨_, hin, hr3, hs3⟩ := nightB_parts hn
      rcases grE_or n0 n1 zs ch r with hE | hE | hE
      · obtain ⟨_, ⟨hc1, hc2⟩, ⟨hr1, hr2⟩, hz1, hz2⟩ := grE_ok hE
        obtain ⟨c, rfl⟩ := Int.eq_ofNat_of_zero_le hc1
        rw [Int.toNat_natCast] at hz1 hz2
        obtain ⟨z, hz⟩ : ∃ z, zs.getD c 0 = z := ⟨_, rfl⟩
        rw [hz] at hz1 hz2
        have hcn : c < zs.length := by omega
        have hlen : (zs.set c (z + r)).length = zs.length := List.length_set
        have hE2 : grE n0 n1 (zs.set c (z + r)) c (-r) = 0 := by
          refine grE_of (nightB_of (by omega) (shIn_set hin c ⟨hz1, hz2⟩) hr3 hs3) ⟨by omega, by omega⟩ ⟨by omega, by omega⟩ ?_
          rw [Int.toNat_natCast, getD_set c hcn, if_pos rfl]
          have := hin.getD c
          rw [hz] at this
          omega
        have HZ := Lib.hid hz
        have HE2 := Lib.hid hE2
        have HIN := Lib.hid hin
        have HLEN := Lib.hid hlen
        clear hE2 hz hlen hin
        obtain ⟨b1, o1, z', e1, hb1', cz, gz, _, _⟩ := K.sl.get hcn
        subst e1
        obtain rfl : z = z' := HZ.out.symm.trans gz.out
        have HZ2 : Hid ((zs.set c (z + r)).getD c 0 = z + r) := by show _ = _; rw [getD_set c hcn, if_pos rfl]
        go_enter Try.func7, Try.ntmps7
        go_wp2_with fail
        refine (head_any _).mono ?_
        rintro e w1 ⟨rfl, hb1⟩
        have R_n_1 : Row w1 (w.heap.size) [.int .i64 n0, .int .i64 n1, .slice (some ⟨b1, o1, none⟩) zs.length cap] := by (repeat' (first | (with_reducible assumption) | (with_reducible refine Row.new' _ _ _ (by first | rfl | (simp; done) | omega)) | (with_reducible refine Row.alloc ?_ _) | (with_reducible refine Row.drew ?_) | (with_reducible refine Row.drewN ?_ _) | (with_reducible refine Row.step ?_ (by with_reducible assumption)) | (with_reducible refine Row.set2' ?_ _ _; first | exact ⟨_, _, by with_reducible assumption⟩ | exact ⟨_, _, Row.alloc (by with_reducible assumption) _⟩ | exact ⟨_, _, Row.alloc (Row.alloc (by with_reducible assumption) _) _⟩) | (with_reducible refine Row.other ?_ (by first | omega | (simp; done) | (simp; omega)) _)))
        have c_n_0_1 := R_n_1.cell 0 rfl
        have c_n_1_1 := R_n_1.cell 1 rfl
        have c_n_2_1 := R_n_1.cell 2 rfl
        have l_n_1 := R_n_1.lt
        replace K := K.step (show Below w.heap.size w w1 by (repeat' (first | (with_reducible exact Below.refl _ _) | (with_reducible assumption) | (with_reducible exact Bw.out (by with_reducible assumption)) | (with_reducible refine bw_alloc ?_ _) | (with_reducible refine bw_step ?_ (by with_reducible assumption)) | (with_reducible refine Below.alloc ?_ ?_ _) | (with_reducible refine Below.drew ?_) | (with_reducible refine below_drewN ?_ _) | (with_reducible refine Below.setCell ?_ ?_ _) | (with_reducible refine below_step ?_ (by with_reducible assumption) ?_) | (with_reducible exact Nat.le_refl _) | omega | (simp; omega) | (simp; done))))
        have HB1 : Below w.heap.size w w1 := by (repeat' (first | (with_reducible exact Below.refl _ _) | (with_reducible assumption) | (with_reducible exact Bw.out (by with_reducible assumption)) | (with_reducible refine bw_alloc ?_ _) | (with_reducible refine bw_step ?_ (by with_reducible assumption)) | (with_reducible refine Below.alloc ?_ ?_ _) | (with_reducible refine Below.drew ?_) | (with_reducible refine below_drewN ?_ _) | (with_reducible refine Below.setCell ?_ ?_ _) | (with_reducible refine below_step ?_ (by with_reducible assumption) ?_) | (with_reducible exact Nat.le_refl _) | omega | (simp; omega) | (simp; done)))
        go_wp2_with fail
        refine (R_night_any _ _ _ _ _ zs _ (by omega) (SlC.sl (K.step (by (repeat' (first | (with_reducible exact Below.refl _ _) | (with_reducible assumption) | (with_reducible exact Bw.out (by with_reducible assumption)) | (with_reducible refine bw_alloc ?_ _) | (with_reducible refine bw_step ?_ (by with_reducible assumption)) | (with_reducible refine Below.alloc ?_ ?_ _) | (with_reducible refine Below.drew ?_) | (with_reducible refine below_drewN ?_ _) | (with_reducible refine Below.setCell ?_ ?_ _) | (with_reducible refine below_step ?_ (by with_reducible assumption) ?_) | (with_reducible exact Nat.le_refl _) | omega | (simp; omega) | (simp; done))))))).mono ?_
        rintro e w2 ⟨rfl, hb2⟩
        have R_n_2 : Row w2 (w.heap.size) [.int .i64 n0, .int .i64 n1, .slice (some ⟨b1, o1, none⟩) zs.length cap] := by (repeat' (first | (with_reducible assumption) | (with_reducible refine Row.new' _ _ _ (by first | rfl | (simp; done) | omega)) | (with_reducible refine Row.alloc ?_ _) | (with_reducible refine Row.drew ?_) | (with_reducible refine Row.drewN ?_ _) | (with_reducible refine Row.step ?_ (by with_reducible assumption)) | (with_reducible refine Row.set2' ?_ _ _; first | exact ⟨_, _, by with_reducible assumption⟩ | exact ⟨_, _, Row.alloc (by with_reducible assumption) _⟩ | exact ⟨_, _, Row.alloc (Row.alloc (by with_reducible assumption) _) _⟩) | (with_reducible refine Row.other ?_ (by first | omega | (simp; done) | (simp; omega)) _)))
        have c_n_0_2 := R_n_2.cell 0 rfl
        have c_n_1_2 := R_n_2.cell 1 rfl
        have c_n_2_2 := R_n_2.cell 2 rfl
        have l_n_2 := R_n_2.lt
        replace K := K.step (show Below w1.heap.size w1 w2 by (repeat' (first | (with_reducible exact Below.refl _ _) | (with_reducible assumption) | (with_reducible exact Bw.out (by with_reducible assumption)) | (with_reducible refine bw_alloc ?_ _) | (with_reducible refine bw_step ?_ (by with_reducible assumption)) | (with_reducible refine Below.alloc ?_ ?_ _) | (with_reducible refine Below.drew ?_) | (with_reducible refine below_drewN ?_ _) | (with_reducible refine Below.setCell ?_ ?_ _) | (with_reducible refine below_step ?_ (by with_reducible assumption) ?_) | (with_reducible exact Nat.le_refl _) | omega | (simp; omega) | (simp; done))))
        have HB2 : Below w.heap.size w w2 := by (repeat' (first | (with_reducible exact Below.refl _ _) | (with_reducible assumption) | (with_reducible exact Bw.out (by with_reducible assumption)) | (with_reducible refine bw_alloc ?_ _) | (with_reducible refine bw_step ?_ (by with_reducible assumption)) | (with_reducible refine Below.alloc ?_ ?_ _) | (with_reducible refine Below.drew ?_) | (with_reducible refine below_drewN ?_ _) | (with_reducible refine Below.setCell ?_ ?_ _) | (with_reducible refine below_step ?_ (by with_reducible assumption) ?_) | (with_reducible exact Nat.le_refl _) | omega | (simp; omega) | (simp; done)))
        clear R_n_1 c_n_0_1 c_n_1_1 c_n_2_1 hb1 HB1
        go_wp2_with fail
        refine (grant_ok n0 n1 r z c _ _ _ zs _ (K.step (by (repeat' (first | (with_reducible exact Below.refl _ _) | (with_reducible assumption) | (with_reducible exact Bw.out (by with_reducible assumption)) | (with_reducible refine bw_alloc ?_ _) | (with_reducible refine bw_step ?_ (by with_reducible assumption)) | (with_reducible refine Below.alloc ?_ ?_ _) | (with_reducible refine Below.drew ?_) | (with_reducible refine below_drewN ?_ _) | (with_reducible refine Below.setCell ?_ ?_ _) | (with_reducible refine below_step ?_ (by with_reducible assumption) ?_) | (with_reducible exact Nat.le_refl _) | omega | (simp; omega) | (simp; done))))) ⟨r1, r2⟩ HZ.out hE).mono ?_
        rintro e w3 ⟨b, d, rfl, K2, hb3⟩
        have R_n_3 : Row w3 (w.heap.size) [.int .i64 n0, .int .i64 n1, .slice (some ⟨b1, o1, none⟩) zs.length cap] := by (repeat' (first | (with_reducible assumption) | (with_reducible refine Row.new' _ _ _ (by first | rfl | (simp; done) | omega)) | (with_reducible refine Row.alloc ?_ _) | (with_reducible refine Row.drew ?_) | (with_reducible refine Row.drewN ?_ _) | (with_reducible refine Row.step ?_ (by with_reducible assumption)) | (with_reducible refine Row.set2' ?_ _ _; first | exact ⟨_, _, by with_reducible assumption⟩ | exact ⟨_, _, Row.alloc (by with_reducible assumption) _⟩ | exact ⟨_, _, Row.alloc (Row.alloc (by with_reducible assumption) _) _⟩) | (with_reducible refine Row.other ?_ (by first | omega | (simp; done) | (simp; omega)) _)))
        have c_n_0_3 := R_n_3.cell 0 rfl
        have c_n_1_3 := R_n_3.cell 1 rfl
        have c_n_2_3 := R_n_3.cell 2 rfl
        have l_n_3 := R_n_3.lt
        replace K := K.step (show Below w2.heap.size w2 w3 by (repeat' (first | (with_reducible exact Below.refl _ _) | (with_reducible assumption) | (with_reducible exact Bw.out (by with_reducible assumption)) | (with_reducible refine bw_alloc ?_ _) | (with_reducible refine bw_step ?_ (by with_reducible assumption)) | (with_reducible refine Below.alloc ?_ ?_ _) | (with_reducible refine Below.drew ?_) | (with_reducible refine below_drewN ?_ _) | (with_reducible refine Below.setCell ?_ ?_ _) | (with_reducible refine below_step ?_ (by with_reducible assumption) ?_) | (with_reducible exact Nat.le_refl _) | omega | (simp; omega) | (simp; done))))
        have HB3 : Below w.heap.size w w3 := by (repeat' (first | (with_reducible exact Below.refl _ _) | (with_reducible assumption) | (with_reducible exact Bw.out (by with_reducible assumption)) | (with_reducible refine bw_alloc ?_ _) | (with_reducible refine bw_step ?_ (by with_reducible assumption)) | (with_reducible refine Below.alloc ?_ ?_ _) | (with_reducible refine Below.drew ?_) | (with_reducible refine below_drewN ?_ _) | (with_reducible refine Below.setCell ?_ ?_ _) | (with_reducible refine below_step ?_ (by with_reducible assumption) ?_) | (with_reducible exact Nat.le_refl _) | omega | (simp; omega) | (simp; done)))
        clear R_n_2 c_n_0_2 c_n_1_2 c_n_2_2 hb2 HB2
        obtain ⟨b2, o2, y2, e2, hb2', cy, gy, _, _⟩ := K2.sl.get hcn
        subst e2
        obtain rfl : z + r = y2 := HZ2.out.symm.trans gy.out
        clear gy gz
        go_wp2_with fail
        have Rn0 : Row (w3.alloc (.cells #[.int .i64 n0, .int .i64 n1, .slice (some ⟨b2, o2, none⟩) zs.length d] 25)) w.heap.size [.int .i64 n0, .int .i64 n1, .slice (some ⟨b1, o1, none⟩) zs.length cap] := by (repeat' (first | (with_reducible assumption) | (with_reducible refine Row.new' _ _ _ (by first | rfl | (simp; done) | omega)) | (with_reducible refine Row.alloc ?_ _) | (with_reducible refine Row.drew ?_) | (with_reducible refine Row.drewN ?_ _) | (with_reducible refine Row.step ?_ (by with_reducible assumption))))
        have Rm0 : Row (w3.alloc (.cells #[.int .i64 n0, .int .i64 n1, .slice (some ⟨b2, o2, none⟩) zs.length d] 25)) w3.heap.size [.int .i64 n0, .int .i64 n1, .slice (some ⟨b2, o2, none⟩) zs.length d] := by (repeat' (first | (with_reducible assumption) | (with_reducible refine Row.new' _ _ _ (by first | rfl | (simp; done) | omega)) | (with_reducible refine Row.alloc ?_ _) | (with_reducible refine Row.drew ?_) | (with_reducible refine Row.drewN ?_ _) | (with_reducible refine Row.step ?_ (by with_reducible assumption))))
        have Hb0 : Below w.heap.size w (w3.alloc (.cells #[.int .i64 n0, .int .i64 n1, .slice (some ⟨b2, o2, none⟩) zs.length d] 25)) := by (repeat' (first | (with_reducible exact Below.refl _ _) | (with_reducible assumption) | (with_reducible exact Bw.out (by with_reducible assumption)) | (with_reducible refine bw_alloc ?_ _) | (with_reducible refine bw_step ?_ (by with_reducible assumption)) | (with_reducible refine Below.alloc ?_ ?_ _) | (with_reducible refine Below.drew ?_) | (with_reducible refine below_drewN ?_ _) | (with_reducible refine Below.setCell ?_ ?_ _) | (with_reducible refine below_step ?_ (by with_reducible assumption) ?_) | (with_reducible exact Nat.le_refl _) | omega | (simp; omega) | (simp; done)))
        have K0 := K.alloc (.cells #[.int .i64 n0, .int .i64 n1, .slice (some ⟨b2, o2, none⟩) zs.length d] 25)
        have K20 := K2.alloc (.cells #[.int .i64 n0, .int .i64 n1, .slice (some ⟨b2, o2, none⟩) zs.length d] 25)
        go_loopw [10, 68] (fun _ u wr => ∃ k : Nat, k ≤ zs.length ∧ u = .int .i64 k ∧ Hid (Row wr w.heap.size [.int .i64 n0, .int .i64 n1, .slice (some ⟨b1, o1, none⟩) zs.length cap]) ∧ Hid (Row wr w3.heap.size [.int .i64 n0, .int .i64 n1, .slice (some ⟨b2, o2, none⟩) zs.length d]) ∧
            Hid (SlC wr (some ⟨b1, o1, none⟩) zs.length cap zs) ∧ Hid (SlC wr (some ⟨b2, o2, none⟩) zs.length d (zs.set c (z + r))) ∧ Hid (Below w.heap.size w wr)) (fun _ u _ => zs.length - (intOf u).toNat)
        case atStart => exact ⟨0, Nat.zero_le _, rfl, Rn0, Rm0, K0, K20, Hb0⟩
        case round =>
          obtain ⟨k, hk, rfl, hRn, hRm, hK, hK2, hBw⟩ := hrel
          by_cases hlt : k < zs.length
          · obtain ⟨_, _, x, e, _, cx, gx, _, _⟩ := hK.out.sl.get hlt
            cases e
            obtain ⟨_, _, y, e, _, cy, gy, _, _⟩ := hK2.out.sl.get hlt
            cases e
            have cn := hRn.out.cell 2 rfl
            have cm := hRm.out.cell 2 rfl
            have i1 : (0 : Int) ≤ (k : Int) := by omega
            have i2 : (k : Int) < (zs.length : Int) := by omega
            by_cases hkc : k = c
            · have q1 : ((k : Int) != (c : Int)) = false := by simp; omega
              clear gx gy
              go_wp2_with fail
              go_quiet (fail)
              go_wp2_with fail
              go_roundw
              case rel => exact ⟨k + 1, by omega, by go_num, hRn.out.drewN _, hRm.out.drewN _, hK.out.drewN _, hK2.out.drewN _, below_drewN hBw.out _⟩
              case measure => simp [intOf]; omega
            · have q1 : ((k : Int) != (c : Int)) = true := by simp; omega
              obtain rfl : x = y := by
                have h1 := gx.out
                have h2 := gy.out
                rw [getD_set k hcn, if_neg hkc] at h2
                exact h1.symm.trans h2
              clear gx gy
              go_wp2_with fail
              go_quiet (fail)
              go_wp2_with fail
              go_roundw
              case rel => exact ⟨k + 1, by omega, by go_num, hRn.out.drewN _, hRm.out.drewN _, hK.out.drewN _, hK2.out.drewN _, below_drewN hBw.out _⟩
              case measure => simp [intOf]; omega
          · obtain rfl : zs.length = k := by omega
            obtain ⟨w4, hw4⟩ : ∃ wd : World, wd = wr := ⟨_, rfl⟩
            subst hw4
            have R_n_4 := hRn.out
            have R_m_4 := hRm.out
            replace K := hK.out
            replace K2 := hK2.out
            have HB4 := hBw.out
            have m0 := R_m_4.cell 0 rfl
            have m1 := R_m_4.cell 1 rfl
            have m2 := R_m_4.cell 2 rfl
            have lm4 := R_m_4.lt
            have ln4 := R_n_4.lt
            clear hRn hRm hK hK2 hBw
            go_wp2_with fail
            refine (grant_ok n0 n1 (-r) (z + r) c _ _ _ (zs.set c (z + r)) _ (K2.step (by (repeat' (first | (with_reducible exact Below.refl _ _) | (with_reducible assumption) | (with_reducible exact Bw.out (by with_reducible assumption)) | (with_reducible refine bw_alloc ?_ _) | (with_reducible refine bw_step ?_ (by with_reducible assumption)) | (with_reducible refine Below.alloc ?_ ?_ _) | (with_reducible refine Below.drew ?_) | (with_reducible refine below_drewN ?_ _) | (with_reducible refine Below.setCell ?_ ?_ _) | (with_reducible refine below_step ?_ (by with_reducible assumption) ?_) | (with_reducible exact Nat.le_refl _) | omega | (simp; omega) | (simp; done))))) ⟨by omega, by omega⟩ HZ2.out HE2.out).mono ?_
            rintro e w5 ⟨b5, d5, rfl, K5, hb5⟩
            have R_n_5 : Row w5 (w.heap.size) [.int .i64 n0, .int .i64 n1, .slice (some ⟨b1, o1, none⟩) zs.length cap] := by (repeat' (first | (with_reducible assumption) | (with_reducible refine Row.new' _ _ _ (by first | rfl | (simp; done) | omega)) | (with_reducible refine Row.alloc ?_ _) | (with_reducible refine Row.drew ?_) | (with_reducible refine Row.drewN ?_ _) | (with_reducible refine Row.step ?_ (by with_reducible assumption)) | (with_reducible refine Row.set2' ?_ _ _; first | exact ⟨_, _, by with_reducible assumption⟩ | exact ⟨_, _, Row.alloc (by with_reducible assumption) _⟩ | exact ⟨_, _, Row.alloc (Row.alloc (by with_reducible assumption) _) _⟩) | (with_reducible refine Row.other ?_ (by first | omega | (simp; done) | (simp; omega)) _)))
            have c_n_0_5 := R_n_5.cell 0 rfl
            have c_n_1_5 := R_n_5.cell 1 rfl
            have c_n_2_5 := R_n_5.cell 2 rfl
            have l_n_5 := R_n_5.lt
            have R_m_5 : Row w5 (w3.heap.size) [.int .i64 n0, .int .i64 n1, .slice (some ⟨b2, o2, none⟩) zs.length d] := by (repeat' (first | (with_reducible assumption) | (with_reducible refine Row.new' _ _ _ (by first | rfl | (simp; done) | omega)) | (with_reducible refine Row.alloc ?_ _) | (with_reducible refine Row.drew ?_) | (with_reducible refine Row.drewN ?_ _) | (with_reducible refine Row.step ?_ (by with_reducible assumption)) | (with_reducible refine Row.set2' ?_ _ _; first | exact ⟨_, _, by with_reducible assumption⟩ | exact ⟨_, _, Row.alloc (by with_reducible assumption) _⟩ | exact ⟨_, _, Row.alloc (Row.alloc (by with_reducible assumption) _) _⟩) | (with_reducible refine Row.other ?_ (by first | omega | (simp; done) | (simp; omega)) _)))
            have c_m_0_5 := R_m_5.cell 0 rfl
            have c_m_1_5 := R_m_5.cell 1 rfl
            have c_m_2_5 := R_m_5.cell 2 rfl
            have l_m_5 := R_m_5.lt
            replace K := K.step (show Below w4.heap.size w4 w5 by (repeat' (first | (with_reducible exact Below.refl _ _) | (with_reducible assumption) | (with_reducible exact Bw.out (by with_reducible assumption)) | (with_reducible refine bw_alloc ?_ _) | (with_reducible refine bw_step ?_ (by with_reducible assumption)) | (with_reducible refine Below.alloc ?_ ?_ _) | (with_reducible refine Below.drew ?_) | (with_reducible refine below_drewN ?_ _) | (with_reducible refine Below.setCell ?_ ?_ _) | (with_reducible refine below_step ?_ (by with_reducible assumption) ?_) | (with_reducible exact Nat.le_refl _) | omega | (simp; omega) | (simp; done))))
            replace K2 := K2.step (show Below w4.heap.size w4 w5 by (repeat' (first | (with_reducible exact Below.refl _ _) | (with_reducible assumption) | (with_reducible exact Bw.out (by with_reducible assumption)) | (with_reducible refine bw_alloc ?_ _) | (with_reducible refine bw_step ?_ (by with_reducible assumption)) | (with_reducible refine Below.alloc ?_ ?_ _) | (with_reducible refine Below.drew ?_) | (with_reducible refine below_drewN ?_ _) | (with_reducible refine Below.setCell ?_ ?_ _) | (with_reducible refine below_step ?_ (by with_reducible assumption) ?_) | (with_reducible exact Nat.le_refl _) | omega | (simp; omega) | (simp; done))))
            have HB5 : Below w.heap.size w w5 := by (repeat' (first | (with_reducible exact Below.refl _ _) | (with_reducible assumption) | (with_reducible exact Bw.out (by with_reducible assumption)) | (with_reducible refine bw_alloc ?_ _) | (with_reducible refine bw_step ?_ (by with_reducible assumption)) | (with_reducible refine Below.alloc ?_ ?_ _) | (with_reducible refine Below.drew ?_) | (with_reducible refine below_drewN ?_ _) | (with_reducible refine Below.setCell ?_ ?_ _) | (with_reducible refine below_step ?_ (by with_reducible assumption) ?_) | (with_reducible exact Nat.le_refl _) | omega | (simp; omega) | (simp; done)))
            rw [show z + r + -r = z by omega, set_back HZ.out hcn] at K5
            have X1 : CellAt w5 b1 (o1 + c) (.int .i64 z) := (HB5.cell (p := ⟨b1, o1 + c, none⟩) hb1').trans cz
            obtain ⟨_, _, y5, e, _, cy5, gy5, _, _⟩ := K2.sl.get hcn
            cases e
            obtain rfl : z + r = y5 := HZ2.out.symm.trans gy5.out
            have X2 : CellAt w5 b2 (o2 + c) (.int .i64 (z + r)) := cy5
            clear gy5
            have hw1 : IntKind.i64.wrap (z + r) = z + r := IntWalk.i64_in _ (by omega)
            have i1 : (0 : Int) ≤ (c : Int) := by omega
            have i2 : (c : Int) < (zs.length : Int) := by omega
            go_wp2_with fail
            go_cut [6] (fun s0 wx => s0 = .bool true ∧ Row wx (w.heap.size) [.int .i64 n0, .int .i64 n1, .slice (some ⟨b1, o1, none⟩) zs.length cap] ∧ Row wx (w3.heap.size) [.int .i64 n0, .int .i64 n1, .slice (some ⟨b2, o2, none⟩) zs.length d] ∧ Row wx (w5.heap.size) [.int .i64 n0, .int .i64 n1, .slice b5 zs.length d5] ∧ CellAt wx (b1) (o1 + c) (.int .i64 z) ∧ CellAt wx (b2) (o2 + c) (.int .i64 (z + r)) ∧ SlC wx (b5) (zs.length) (d5) (zs) ∧ SlC wx ((some ⟨b1, o1, none⟩)) (zs.length) (cap) (zs) ∧ Bw w.heap.size w wx)
            case first =>
              go_region_held3 (fun w' => w'.cell? ⟨w.heap.size, 0, none⟩ = some (.int .i64 n0) ∧ w'.cell? ⟨w.heap.size, 1, none⟩ = some (.int .i64 n1) ∧ w'.cell? ⟨w.heap.size, 2, none⟩ = some (.slice (some ⟨b1, o1, none⟩) zs.length cap) ∧ w'.cell? ⟨w3.heap.size, 0, none⟩ = some (.int .i64 n0) ∧ w'.cell? ⟨w3.heap.size, 1, none⟩ = some (.int .i64 n1) ∧ w'.cell? ⟨w3.heap.size, 2, none⟩ = some (.slice (some ⟨b2, o2, none⟩) zs.length d) ∧ w'.cell? ⟨w5.heap.size, 0, none⟩ = some (.int .i64 n0) ∧ w'.cell? ⟨w5.heap.size, 1, none⟩ = some (.int .i64 n1) ∧ w'.cell? ⟨w5.heap.size, 2, none⟩ = some (.slice b5 zs.length d5) ∧ w'.cell? ⟨b1, o1 + c, none⟩ = some (.int .i64 z) ∧ w'.cell? ⟨b2, o2 + c, none⟩ = some (.int .i64 (z + r)) ∧ Row w' (w.heap.size) [.int .i64 n0, .int .i64 n1, .slice (some ⟨b1, o1, none⟩) zs.length cap] ∧ Row w' (w3.heap.size) [.int .i64 n0, .int .i64 n1, .slice (some ⟨b2, o2, none⟩) zs.length d] ∧ Row w' (w5.heap.size) [.int .i64 n0, .int .i64 n1, .slice b5 zs.length d5] ∧ CellAt w' (b1) (o1 + c) (.int .i64 z) ∧ CellAt w' (b2) (o2 + c) (.int .i64 (z + r)) ∧ SlC w' (b5) (zs.length) (d5) (zs) ∧ SlC w' ((some ⟨b1, o1, none⟩)) (zs.length) (cap) (zs) ∧ Bw w.heap.size w w')
                (((try go_split_ands); exact ⟨Row.cell (cs := [.int .i64 n0, .int .i64 n1, .slice (some ⟨b1, o1, none⟩) zs.length cap]) (by (repeat' (first | (with_reducible assumption) | (with_reducible refine Row.new' _ _ _ (by first | rfl | (simp; done) | omega)) | (with_reducible refine Row.alloc ?_ _) | (with_reducible refine Row.drew ?_) | (with_reducible refine Row.drewN ?_ _) | (with_reducible refine Row.step ?_ (by with_reducible assumption)) | (with_reducible refine Row.set2' ?_ _ _; first | exact ⟨_, _, by with_reducible assumption⟩ | exact ⟨_, _, Row.alloc (by with_reducible assumption) _⟩ | exact ⟨_, _, Row.alloc (Row.alloc (by with_reducible assumption) _) _⟩) | (with_reducible refine Row.other ?_ (by first | omega | (simp; done) | (simp; omega)) _)))) 0 rfl, Row.cell (cs := [.int .i64 n0, .int .i64 n1, .slice (some ⟨b1, o1, none⟩) zs.length cap]) (by (repeat' (first | (with_reducible assumption) | (with_reducible refine Row.new' _ _ _ (by first | rfl | (simp; done) | omega)) | (with_reducible refine Row.alloc ?_ _) | (with_reducible refine Row.drew ?_) | (with_reducible refine Row.drewN ?_ _) | (with_reducible refine Row.step ?_ (by with_reducible assumption)) | (with_reducible refine Row.set2' ?_ _ _; first | exact ⟨_, _, by with_reducible assumption⟩ | exact ⟨_, _, Row.alloc (by with_reducible assumption) _⟩ | exact ⟨_, _, Row.alloc (Row.alloc (by with_reducible assumption) _) _⟩) | (with_reducible refine Row.other ?_ (by first | omega | (simp; done) | (simp; omega)) _)))) 1 rfl, Row.cell (cs := [.int .i64 n0, .int .i64 n1, .slice (some ⟨b1, o1, none⟩) zs.length cap]) (by (repeat' (first | (with_reducible assumption) | (with_reducible refine Row.new' _ _ _ (by first | rfl | (simp; done) | omega)) | (with_reducible refine Row.alloc ?_ _) | (with_reducible refine Row.drew ?_) | (with_reducible refine Row.drewN ?_ _) | (with_reducible refine Row.step ?_ (by with_reducible assumption)) | (with_reducible refine Row.set2' ?_ _ _; first | exact ⟨_, _, by with_reducible assumption⟩ | exact ⟨_, _, Row.alloc (by with_reducible assumption) _⟩ | exact ⟨_, _, Row.alloc (Row.alloc (by with_reducible assumption) _) _⟩) | (with_reducible refine Row.other ?_ (by first | omega | (simp; done) | (simp; omega)) _)))) 2 rfl, Row.cell (cs := [.int .i64 n0, .int .i64 n1, .slice (some ⟨b2, o2, none⟩) zs.length d]) (by (repeat' (first | (with_reducible assumption) | (with_reducible refine Row.new' _ _ _ (by first | rfl | (simp; done) | omega)) | (with_reducible refine Row.alloc ?_ _) | (with_reducible refine Row.drew ?_) | (with_reducible refine Row.drewN ?_ _) | (with_reducible refine Row.step ?_ (by with_reducible assumption)) | (with_reducible refine Row.set2' ?_ _ _; first | exact ⟨_, _, by with_reducible assumption⟩ | exact ⟨_, _, Row.alloc (by with_reducible assumption) _⟩ | exact ⟨_, _, Row.alloc (Row.alloc (by with_reducible assumption) _) _⟩) | (with_reducible refine Row.other ?_ (by first | omega | (simp; done) | (simp; omega)) _)))) 0 rfl, Row.cell (cs := [.int .i64 n0, .int .i64 n1, .slice (some ⟨b2, o2, none⟩) zs.length d]) (by (repeat' (first | (with_reducible assumption) | (with_reducible refine Row.new' _ _ _ (by first | rfl | (simp; done) | omega)) | (with_reducible refine Row.alloc ?_ _) | (with_reducible refine Row.drew ?_) | (with_reducible refine Row.drewN ?_ _) | (with_reducible refine Row.step ?_ (by with_reducible assumption)) | (with_reducible refine Row.set2' ?_ _ _; first | exact ⟨_, _, by with_reducible assumption⟩ | exact ⟨_, _, Row.alloc (by with_reducible assumption) _⟩ | exact ⟨_, _, Row.alloc (Row.alloc (by with_reducible assumption) _) _⟩) | (with_reducible refine Row.other ?_ (by first | omega | (simp; done) | (simp; omega)) _)))) 1 rfl, Row.cell (cs := [.int .i64 n0, .int .i64 n1, .slice (some ⟨b2, o2, none⟩) zs.length d]) (by (repeat' (first | (with_reducible assumption) | (with_reducible refine Row.new' _ _ _ (by first | rfl | (simp; done) | omega)) | (with_reducible refine Row.alloc ?_ _) | (with_reducible refine Row.drew ?_) | (with_reducible refine Row.drewN ?_ _) | (with_reducible refine Row.step ?_ (by with_reducible assumption)) | (with_reducible refine Row.set2' ?_ _ _; first | exact ⟨_, _, by with_reducible assumption⟩ | exact ⟨_, _, Row.alloc (by with_reducible assumption) _⟩ | exact ⟨_, _, Row.alloc (Row.alloc (by with_reducible assumption) _) _⟩) | (with_reducible refine Row.other ?_ (by first | omega | (simp; done) | (simp; omega)) _)))) 2 rfl, Row.cell (cs := [.int .i64 n0, .int .i64 n1, .slice b5 zs.length d5]) (by (repeat' (first | (with_reducible assumption) | (with_reducible refine Row.new' _ _ _ (by first | rfl | (simp; done) | omega)) | (with_reducible refine Row.alloc ?_ _) | (with_reducible refine Row.drew ?_) | (with_reducible refine Row.drewN ?_ _) | (with_reducible refine Row.step ?_ (by with_reducible assumption)) | (with_reducible refine Row.set2' ?_ _ _; first | exact ⟨_, _, by with_reducible assumption⟩ | exact ⟨_, _, Row.alloc (by with_reducible assumption) _⟩ | exact ⟨_, _, Row.alloc (Row.alloc (by with_reducible assumption) _) _⟩) | (with_reducible refine Row.other ?_ (by first | omega | (simp; done) | (simp; omega)) _)))) 0 rfl, Row.cell (cs := [.int .i64 n0, .int .i64 n1, .slice b5 zs.length d5]) (by (repeat' (first | (with_reducible assumption) | (with_reducible refine Row.new' _ _ _ (by first | rfl | (simp; done) | omega)) | (with_reducible refine Row.alloc ?_ _) | (with_reducible refine Row.drew ?_) | (with_reducible refine Row.drewN ?_ _) | (with_reducible refine Row.step ?_ (by with_reducible assumption)) | (with_reducible refine Row.set2' ?_ _ _; first | exact ⟨_, _, by with_reducible assumption⟩ | exact ⟨_, _, Row.alloc (by with_reducible assumption) _⟩ | exact ⟨_, _, Row.alloc (Row.alloc (by with_reducible assumption) _) _⟩) | (with_reducible refine Row.other ?_ (by first | omega | (simp; done) | (simp; omega)) _)))) 1 rfl, Row.cell (cs := [.int .i64 n0, .int .i64 n1, .slice b5 zs.length d5]) (by (repeat' (first | (with_reducible assumption) | (with_reducible refine Row.new' _ _ _ (by first | rfl | (simp; done) | omega)) | (with_reducible refine Row.alloc ?_ _) | (with_reducible refine Row.drew ?_) | (with_reducible refine Row.drewN ?_ _) | (with_reducible refine Row.step ?_ (by with_reducible assumption)) | (with_reducible refine Row.set2' ?_ _ _; first | exact ⟨_, _, by with_reducible assumption⟩ | exact ⟨_, _, Row.alloc (by with_reducible assumption) _⟩ | exact ⟨_, _, Row.alloc (Row.alloc (by with_reducible assumption) _) _⟩) | (with_reducible refine Row.other ?_ (by first | omega | (simp; done) | (simp; omega)) _)))) 2 rfl, CellAt.out (by (repeat' (first | (with_reducible assumption) | (with_reducible refine CellAt.drew ?_) | (with_reducible refine CellAt.drewN ?_ _) | (with_reducible refine CellAt.alloc ?_ _) | (with_reducible refine CellAt.step ?_ (by with_reducible assumption))))), CellAt.out (by (repeat' (first | (with_reducible assumption) | (with_reducible refine CellAt.drew ?_) | (with_reducible refine CellAt.drewN ?_ _) | (with_reducible refine CellAt.alloc ?_ _) | (with_reducible refine CellAt.step ?_ (by with_reducible assumption))))), by (repeat' (first | (with_reducible assumption) | (with_reducible refine Row.new' _ _ _ (by first | rfl | (simp; done) | omega)) | (with_reducible refine Row.alloc ?_ _) | (with_reducible refine Row.drew ?_) | (with_reducible refine Row.drewN ?_ _) | (with_reducible refine Row.step ?_ (by with_reducible assumption)) | (with_reducible refine Row.set2' ?_ _ _; first | exact ⟨_, _, by with_reducible assumption⟩ | exact ⟨_, _, Row.alloc (by with_reducible assumption) _⟩ | exact ⟨_, _, Row.alloc (Row.alloc (by with_reducible assumption) _) _⟩) | (with_reducible refine Row.other ?_ (by first | omega | (simp; done) | (simp; omega)) _))), by (repeat' (first | (with_reducible assumption) | (with_reducible refine Row.new' _ _ _ (by first | rfl | (simp; done) | omega)) | (with_reducible refine Row.alloc ?_ _) | (with_reducible refine Row.drew ?_) | (with_reducible refine Row.drewN ?_ _) | (with_reducible refine Row.step ?_ (by with_reducible assumption)) | (with_reducible refine Row.set2' ?_ _ _; first | exact ⟨_, _, by with_reducible assumption⟩ | exact ⟨_, _, Row.alloc (by with_reducible assumption) _⟩ | exact ⟨_, _, Row.alloc (Row.alloc (by with_reducible assumption) _) _⟩) | (with_reducible refine Row.other ?_ (by first | omega | (simp; done) | (simp; omega)) _))), by (repeat' (first | (with_reducible assumption) | (with_reducible refine Row.new' _ _ _ (by first | rfl | (simp; done) | omega)) | (with_reducible refine Row.alloc ?_ _) | (with_reducible refine Row.drew ?_) | (with_reducible refine Row.drewN ?_ _) | (with_reducible refine Row.step ?_ (by with_reducible assumption)) | (with_reducible refine Row.set2' ?_ _ _; first | exact ⟨_, _, by with_reducible assumption⟩ | exact ⟨_, _, Row.alloc (by with_reducible assumption) _⟩ | exact ⟨_, _, Row.alloc (Row.alloc (by with_reducible assumption) _) _⟩) | (with_reducible refine Row.other ?_ (by first | omega | (simp; done) | (simp; omega)) _))), by (repeat' (first | (with_reducible assumption) | (with_reducible refine CellAt.drew ?_) | (with_reducible refine CellAt.drewN ?_ _) | (with_reducible refine CellAt.alloc ?_ _) | (with_reducible refine CellAt.step ?_ (by with_reducible assumption)))), by (repeat' (first | (with_reducible assumption) | (with_reducible refine CellAt.drew ?_) | (with_reducible refine CellAt.drewN ?_ _) | (with_reducible refine CellAt.alloc ?_ _) | (with_reducible refine CellAt.step ?_ (by with_reducible assumption)))), by (repeat' (first | (with_reducible assumption) | (with_reducible refine SlC.drew ?_) | (with_reducible refine SlC.drewN ?_ _) | (with_reducible refine SlC.alloc ?_ _) | (with_reducible refine SlC.step ?_ (by with_reducible assumption)))), by (repeat' (first | (with_reducible assumption) | (with_reducible refine SlC.drew ?_) | (with_reducible refine SlC.drewN ?_ _) | (with_reducible refine SlC.alloc ?_ _) | (with_reducible refine SlC.step ?_ (by with_reducible assumption)))), (by (repeat' (first | (with_reducible exact Below.refl _ _) | (with_reducible assumption) | (with_reducible exact Bw.out (by with_reducible assumption)) | (with_reducible refine bw_alloc ?_ _) | (with_reducible refine bw_step ?_ (by with_reducible assumption)) | (with_reducible refine Below.alloc ?_ ?_ _) | (with_reducible refine Below.drew ?_) | (with_reducible refine below_drewN ?_ _) | (with_reducible refine Below.setCell ?_ ?_ _) | (with_reducible refine below_step ?_ (by with_reducible assumption) ?_) | (with_reducible exact Nat.le_refl _) | omega | (simp; omega) | (simp; done))) : Below _ _ _)⟩))
                (first | (go_at_call 24; (with_reducible refine (R_same_c _ _ _ _ _ _ _ _ _ _ zs zs true _ (by (repeat' (first | (with_reducible assumption) | (with_reducible refine SlC.drew ?_) | (with_reducible refine SlC.drewN ?_ _) | (with_reducible refine SlC.alloc ?_ _) | (with_reducible refine SlC.step ?_ (by with_reducible assumption))))) (by (repeat' (first | (with_reducible assumption) | (with_reducible refine SlC.drew ?_) | (with_reducible refine SlC.drewN ?_ _) | (with_reducible refine SlC.alloc ?_ _) | (with_reducible refine SlC.step ?_ (by with_reducible assumption))))) (by simp [sameB])).mono ?_); rintro e wx ⟨rfl, hbx⟩; obtain ⟨hcx, hzx⟩ := bcell hbx; have hsx := hbx.size; (try simp at hsx); have hsy := bsize hbx))
              all_goals
                rename_i hH
                obtain ⟨_, _, _, _, _, _, _, _, _, _, _, hH_n, hH_m, hH_k, hX_X1, hX_X2, hX_X3, hX_X4, hHB⟩ := hH
                go_wp2_with fail
                go_meet
                exact ⟨rfl, hH_n, hH_m, hH_k, hX_X1, hX_X2, hX_X3, hX_X4, hHB⟩
            case' rest =>
              obtain ⟨rfl, R_n_6, R_m_6, R_k_6, X1, X2, X3, X4, HB6⟩ := hcut
              obtain ⟨w6, hw6⟩ : ∃ wd, wd = wc := ⟨_, rfl⟩
              subst hw6
              replace HB6 := HB6.out
              clear R_n_5 c_n_0_5 c_n_1_5 c_n_2_5 R_m_5 c_m_0_5 c_m_1_5 c_m_2_5 hb5 HB5
              have c_n_0_6 := R_n_6.cell 0 rfl
              have c_n_1_6 := R_n_6.cell 1 rfl
              have c_n_2_6 := R_n_6.cell 2 rfl
              have l_n_6 := R_n_6.lt
              have c_m_0_6 := R_m_6.cell 0 rfl
              have c_m_1_6 := R_m_6.cell 1 rfl
              have c_m_2_6 := R_m_6.cell 2 rfl
              have l_m_6 := R_m_6.lt
              have c_k_0_6 := R_k_6.cell 0 rfl
              have c_k_1_6 := R_k_6.cell 1 rfl
              have c_k_2_6 := R_k_6.cell 2 rfl
              have l_k_6 := R_k_6.lt
            case rest =>
              go_wp2_with fail
              go_ret
              refine ⟨(by first | rfl | exact ret_bool (by first | rfl | (simp; done) | (simp; omega))), ?_⟩
              (repeat' (first | (with_reducible exact Below.refl _ _) | (with_reducible assumption) | (with_reducible exact Bw.out (by with_reducible assumption)) | (with_reducible refine bw_alloc ?_ _) | (with_reducible refine bw_step ?_ (by with_reducible assumption)) | (with_reducible refine Below.alloc ?_ ?_ _) | (with_reducible refine Below.drew ?_) | (with_reducible refine below_drewN ?_ _) | (with_reducible refine Below.setCell ?_ ?_ _) | (with_reducible refine below_step ?_ (by with_reducible assumption) ?_) | (with_reducible exact Nat.le_refl _) | omega | (simp; omega) | (simp; done)))
      ·
        go_enter Try.func7, Try.ntmps7
        go_wp2_with fail
        refine (head_any _).mono ?_
        rintro e w1 ⟨rfl, hb1⟩
        have R_n_1 : Row w1 (w.heap.size) [.int .i64 n0, .int .i64 n1, .slice a zs.length cap] := by (repeat' (first | (with_reducible assumption) | (with_reducible refine Row.new' _ _ _ (by first | rfl | (simp; done) | omega)) | (with_reducible refine Row.alloc ?_ _) | (with_reducible refine Row.drew ?_) | (with_reducible refine Row.drewN ?_ _) | (with_reducible refine Row.step ?_ (by with_reducible assumption)) | (with_reducible refine Row.set2' ?_ _ _; first | exact ⟨_, _, by with_reducible assumption⟩ | exact ⟨_, _, Row.alloc (by with_reducible assumption) _⟩ | exact ⟨_, _, Row.alloc (Row.alloc (by with_reducible assumption) _) _⟩) | (with_reducible refine Row.other ?_ (by first | omega | (simp; done) | (simp; omega)) _)))
        have c_n_0_1 := R_n_1.cell 0 rfl
        have c_n_1_1 := R_n_1.cell 1 rfl
        have c_n_2_1 := R_n_1.cell 2 rfl
        have l_n_1 := R_n_1.lt
        replace K := K.step (show Below w.heap.size w w1 by (repeat' (first | (with_reducible exact Below.refl _ _) | (with_reducible assumption) | (with_reducible exact Bw.out (by with_reducible assumption)) | (with_reducible refine bw_alloc ?_ _) | (with_reducible refine bw_step ?_ (by with_reducible assumption)) | (with_reducible refine Below.alloc ?_ ?_ _) | (with_reducible refine Below.drew ?_) | (with_reducible refine below_drewN ?_ _) | (with_reducible refine Below.setCell ?_ ?_ _) | (with_reducible refine below_step ?_ (by with_reducible assumption) ?_) | (with_reducible exact Nat.le_refl _) | omega | (simp; omega) | (simp; done))))
        have HB1 : Below w.heap.size w w1 := by (repeat' (first | (with_reducible exact Below.refl _ _) | (with_reducible assumption) | (with_reducible exact Bw.out (by with_reducible assumption)) | (with_reducible refine bw_alloc ?_ _) | (with_reducible refine bw_step ?_ (by with_reducible assumption)) | (with_reducible refine Below.alloc ?_ ?_ _) | (with_reducible refine Below.drew ?_) | (with_reducible refine below_drewN ?_ _) | (with_reducible refine Below.setCell ?_ ?_ _) | (with_reducible refine below_step ?_ (by with_reducible assumption) ?_) | (with_reducible exact Nat.le_refl _) | omega | (simp; omega) | (simp; done)))
        go_wp2_with fail
        refine (R_night_any _ _ _ _ _ zs _ (by omega) (SlC.sl (K.step (by (repeat' (first | (with_reducible exact Below.refl _ _) | (with_reducible assumption) | (with_reducible exact Bw.out (by with_reducible assumption)) | (with_reducible refine bw_alloc ?_ _) | (with_reducible refine bw_step ?_ (by with_reducible assumption)) | (with_reducible refine Below.alloc ?_ ?_ _) | (with_reducible refine Below.drew ?_) | (with_reducible refine below_drewN ?_ _) | (with_reducible refine Below.setCell ?_ ?_ _) | (with_reducible refine below_step ?_ (by with_reducible assumption) ?_) | (with_reducible exact Nat.le_refl _) | omega | (simp; omega) | (simp; done))))))).mono ?_
        rintro e w2 ⟨rfl, hb2⟩
        have R_n_2 : Row w2 (w.heap.size) [.int .i64 n0, .int .i64 n1, .slice a zs.length cap] := by (repeat' (first | (with_reducible assumption) | (with_reducible refine Row.new' _ _ _ (by first | rfl | (simp; done) | omega)) | (with_reducible refine Row.alloc ?_ _) | (with_reducible refine Row.drew ?_) | (with_reducible refine Row.drewN ?_ _) | (with_reducible refine Row.step ?_ (by with_reducible assumption)) | (with_reducible refine Row.set2' ?_ _ _; first | exact ⟨_, _, by with_reducible assumption⟩ | exact ⟨_, _, Row.alloc (by with_reducible assumption) _⟩ | exact ⟨_, _, Row.alloc (Row.alloc (by with_reducible assumption) _) _⟩) | (with_reducible refine Row.other ?_ (by first | omega | (simp; done) | (simp; omega)) _)))
        have c_n_0_2 := R_n_2.cell 0 rfl
        have c_n_1_2 := R_n_2.cell 1 rfl
        have c_n_2_2 := R_n_2.cell 2 rfl
        have l_n_2 := R_n_2.lt
        replace K := K.step (show Below w1.heap.size w1 w2 by (repeat' (first | (with_reducible exact Below.refl _ _) | (with_reducible assumption) | (with_reducible exact Bw.out (by with_reducible assumption)) | (with_reducible refine bw_alloc ?_ _) | (with_reducible refine bw_step ?_ (by with_reducible assumption)) | (with_reducible refine Below.alloc ?_ ?_ _) | (with_reducible refine Below.drew ?_) | (with_reducible refine below_drewN ?_ _) | (with_reducible refine Below.setCell ?_ ?_ _) | (with_reducible refine below_step ?_ (by with_reducible assumption) ?_) | (with_reducible exact Nat.le_refl _) | omega | (simp; omega) | (simp; done))))
        have HB2 : Below w.heap.size w w2 := by (repeat' (first | (with_reducible exact Below.refl _ _) | (with_reducible assumption) | (with_reducible exact Bw.out (by with_reducible assumption)) | (with_reducible refine bw_alloc ?_ _) | (with_reducible refine bw_step ?_ (by with_reducible assumption)) | (with_reducible refine Below.alloc ?_ ?_ _) | (with_reducible refine Below.drew ?_) | (with_reducible refine below_drewN ?_ _) | (with_reducible refine Below.setCell ?_ ?_ _) | (with_reducible refine below_step ?_ (by with_reducible assumption) ?_) | (with_reducible exact Nat.le_refl _) | omega | (simp; omega) | (simp; done)))
        clear R_n_1 c_n_0_1 c_n_1_1 c_n_2_1 hb1 HB1
        go_wp2_with fail
        refine (grant_err n0 n1 ch r 1 _ _ _ zs _ (K.step (by (repeat' (first | (with_reducible exact Below.refl _ _) | (with_reducible assumption) | (with_reducible exact Bw.out (by with_reducible assumption)) | (with_reducible refine bw_alloc ?_ _) | (with_reducible refine bw_step ?_ (by with_reducible assumption)) | (with_reducible refine Below.alloc ?_ ?_ _) | (with_reducible refine Below.drew ?_) | (with_reducible refine below_drewN ?_ _) | (with_reducible refine Below.setCell ?_ ?_ _) | (with_reducible refine below_step ?_ (by with_reducible assumption) ?_) | (with_reducible exact Nat.le_refl _) | omega | (simp; omega) | (simp; done))))) ⟨r1, r2⟩ hE (by omega)).mono ?_
        rintro e w3 ⟨b, d, rfl, K2, hb3⟩
        have R_n_3 : Row w3 (w.heap.size) [.int .i64 n0, .int .i64 n1, .slice a zs.length cap] := by (repeat' (first | (with_reducible assumption) | (with_reducible refine Row.new' _ _ _ (by first | rfl | (simp; done) | omega)) | (with_reducible refine Row.alloc ?_ _) | (with_reducible refine Row.drew ?_) | (with_reducible refine Row.drewN ?_ _) | (with_reducible refine Row.step ?_ (by with_reducible assumption)) | (with_reducible refine Row.set2' ?_ _ _; first | exact ⟨_, _, by with_reducible assumption⟩ | exact ⟨_, _, Row.alloc (by with_reducible assumption) _⟩ | exact ⟨_, _, Row.alloc (Row.alloc (by with_reducible assumption) _) _⟩) | (with_reducible refine Row.other ?_ (by first | omega | (simp; done) | (simp; omega)) _)))
        have c_n_0_3 := R_n_3.cell 0 rfl
        have c_n_1_3 := R_n_3.cell 1 rfl
        have c_n_2_3 := R_n_3.cell 2 rfl
        have l_n_3 := R_n_3.lt
        replace K := K.step (show Below w2.heap.size w2 w3 by (repeat' (first | (with_reducible exact Below.refl _ _) | (with_reducible assumption) | (with_reducible exact Bw.out (by with_reducible assumption)) | (with_reducible refine bw_alloc ?_ _) | (with_reducible refine bw_step ?_ (by with_reducible assumption)) | (with_reducible refine Below.alloc ?_ ?_ _) | (with_reducible refine Below.drew ?_) | (with_reducible refine below_drewN ?_ _) | (with_reducible refine Below.setCell ?_ ?_ _) | (with_reducible refine below_step ?_ (by with_reducible assumption) ?_) | (with_reducible exact Nat.le_refl _) | omega | (simp; omega) | (simp; done))))
        have HB3 : Below w.heap.size w w3 := by (repeat' (first | (with_reducible exact Below.refl _ _) | (with_reducible assumption) | (with_reducible exact Bw.out (by with_reducible assumption)) | (with_reducible refine bw_alloc ?_ _) | (with_reducible refine bw_step ?_ (by with_reducible assumption)) | (with_reducible refine Below.alloc ?_ ?_ _) | (with_reducible refine Below.drew ?_) | (with_reducible refine below_drewN ?_ _) | (with_reducible refine Below.setCell ?_ ?_ _) | (with_reducible refine below_step ?_ (by with_reducible assumption) ?_) | (with_reducible exact Nat.le_refl _) | omega | (simp; omega) | (simp; done)))
        clear R_n_2 c_n_0_2 c_n_1_2 c_n_2_2 hb2 HB2
        go_wp2_with fail
        refine (R_same_c _ _ _ _ _ _ _ _ _ _ [] [] true _ (K2.step (by (repeat' (first | (with_reducible exact Below.refl _ _) | (with_reducible assumption) | (with_reducible exact Bw.out (by with_reducible assumption)) | (with_reducible refine bw_alloc ?_ _) | (with_reducible refine bw_step ?_ (by with_reducible assumption)) | (with_reducible refine Below.alloc ?_ ?_ _) | (with_reducible refine Below.drew ?_) | (with_reducible refine below_drewN ?_ _) | (with_reducible refine Below.setCell ?_ ?_ _) | (with_reducible refine below_step ?_ (by with_reducible assumption) ?_) | (with_reducible exact Nat.le_refl _) | omega | (simp; omega) | (simp; done))))) (SlC.nil _) (by decide +kernel)).mono ?_
        rintro e w4 ⟨rfl, hb4⟩
        have R_n_4 : Row w4 (w.heap.size) [.int .i64 n0, .int .i64 n1, .slice a zs.length cap] := by (repeat' (first | (with_reducible assumption) | (with_reducible refine Row.new' _ _ _ (by first | rfl | (simp; done) | omega)) | (with_reducible refine Row.alloc ?_ _) | (with_reducible refine Row.drew ?_) | (with_reducible refine Row.drewN ?_ _) | (with_reducible refine Row.step ?_ (by with_reducible assumption)) | (with_reducible refine Row.set2' ?_ _ _; first | exact ⟨_, _, by with_reducible assumption⟩ | exact ⟨_, _, Row.alloc (by with_reducible assumption) _⟩ | exact ⟨_, _, Row.alloc (Row.alloc (by with_reducible assumption) _) _⟩) | (with_reducible refine Row.other ?_ (by first | omega | (simp; done) | (simp; omega)) _)))
        have c_n_0_4 := R_n_4.cell 0 rfl
        have c_n_1_4 := R_n_4.cell 1 rfl
        have c_n_2_4 := R_n_4.cell 2 rfl
        have l_n_4 := R_n_4.lt
        replace K := K.step (show Below w3.heap.size w3 w4 by (repeat' (first | (with_reducible exact Below.refl _ _) | (with_reducible assumption) | (with_reducible exact Bw.out (by with_reducible assumption)) | (with_reducible refine bw_alloc ?_ _) | (with_reducible refine bw_step ?_ (by with_reducible assumption)) | (with_reducible refine Below.alloc ?_ ?_ _) | (with_reducible refine Below.drew ?_) | (with_reducible refine below_drewN ?_ _) | (with_reducible refine Below.setCell ?_ ?_ _) | (with_reducible refine below_step ?_ (by with_reducible assumption) ?_) | (with_reducible exact Nat.le_refl _) | omega | (simp; omega) | (simp; done))))
        have HB4 : Below w.heap.size w w4 := by (repeat' (first | (with_reducible exact Below.refl _ _) | (with_reducible assumption) | (with_reducible exact Bw.out (by with_reducible assumption)) | (with_reducible refine bw_alloc ?_ _) | (with_reducible refine bw_step ?_ (by with_reducible assumption)) | (with_reducible refine Below.alloc ?_ ?_ _) | (with_reducible refine Below.drew ?_) | (with_reducible refine below_drewN ?_ _) | (with_reducible refine Below.setCell ?_ ?_ _) | (with_reducible refine below_step ?_ (by with_reducible assumption) ?_) | (with_reducible exact Nat.le_refl _) | omega | (simp; omega) | (simp; done)))
        clear R_n_3 c_n_0_3 c_n_1_3 c_n_2_3 hb3 HB3
        go_wp2_with fail
        go_ret
        refine ⟨(by first | rfl | exact ret_bool (by first | rfl | (simp; done) | (simp; omega))), ?_⟩
        (repeat' (first | (with_reducible exact Below.refl _ _) | (with_reducible assumption) | (with_reducible exact Bw.out (by with_reducible assumption)) | (with_reducible refine bw_alloc ?_ _) | (with_reducible refine bw_step ?_ (by with_reducible assumption)) | (with_reducible refine Below.alloc ?_ ?_ _) | (with_reducible refine Below.drew ?_) | (with_reducible refine below_drewN ?_ _) | (with_reducible refine Below.setCell ?_ ?_ _) | (with_reducible refine below_step ?_ (by with_reducible assumption) ?_) | (with_reducible exact Nat.le_refl _) | omega | (simp; omega) | (simp; done)))
      ·
        go_enter Try.func7, Try.ntmps7
        go_wp2_with fail
        refine (head_any _).mono ?_
        rintro e w1 ⟨rfl, hb1⟩
        have R_n_1 : Row w1 (w.heap.size) [.int .i64 n0, .int .i64 n1, .slice a zs.length cap] := by (repeat' (first | (with_reducible assumption) | (with_reducible refine Row.new' _ _ _ (by first | rfl | (simp; done) | omega)) | (with_reducible refine Row.alloc ?_ _) | (with_reducible refine Row.drew ?_) | (with_reducible refine Row.drewN ?_ _) | (with_reducible refine Row.step ?_ (by with_reducible assumption)) | (with_reducible refine Row.set2' ?_ _ _; first | exact ⟨_, _, by with_reducible assumption⟩ | exact ⟨_, _, Row.alloc (by with_reducible assumption) _⟩ | exact ⟨_, _, Row.alloc (Row.alloc (by with_reducible assumption) _) _⟩) | (with_reducible refine Row.other ?_ (by first | omega | (simp; done) | (simp; omega)) _)))
        have c_n_0_1 := R_n_1.cell 0 rfl
        have c_n_1_1 := R_n_1.cell 1 rfl
        have c_n_2_1 := R_n_1.cell 2 rfl
        have l_n_1 := R_n_1.lt
        replace K := K.step (show Below w.heap.size w w1 by (repeat' (first | (with_reducible exact Below.refl _ _) | (with_reducible assumption) | (with_reducible exact Bw.out (by with_reducible assumption)) | (with_reducible refine bw_alloc ?_ _) | (with_reducible refine bw_step ?_ (by with_reducible assumption)) | (with_reducible refine Below.alloc ?_ ?_ _) | (with_reducible refine Below.drew ?_) | (with_reducible refine below_drewN ?_ _) | (with_reducible refine Below.setCell ?_ ?_ _) | (with_reducible refine below_step ?_ (by with_reducible assumption) ?_) | (with_reducible exact Nat.le_refl _) | omega | (simp; omega) | (simp; done))))
        have HB1 : Below w.heap.size w w1 := by (repeat' (first | (with_reducible exact Below.refl _ _) | (with_reducible assumption) | (with_reducible exact Bw.out (by with_reducible assumption)) | (with_reducible refine bw_alloc ?_ _) | (with_reducible refine bw_step ?_ (by with_reducible assumption)) | (with_reducible refine Below.alloc ?_ ?_ _) | (with_reducible refine Below.drew ?_) | (with_reducible refine below_drewN ?_ _) | (with_reducible refine Below.setCell ?_ ?_ _) | (with_reducible refine below_step ?_ (by with_reducible assumption) ?_) | (with_reducible exact Nat.le_refl _) | omega | (simp; omega) | (simp; done)))
        go_wp2_with fail
        refine (R_night_any _ _ _ _ _ zs _ (by omega) (SlC.sl (K.step (by (repeat' (first | (with_reducible exact Below.refl _ _) | (with_reducible assumption) | (with_reducible exact Bw.out (by with_reducible assumption)) | (with_reducible refine bw_alloc ?_ _) | (with_reducible refine bw_step ?_ (by with_reducible assumption)) | (with_reducible refine Below.alloc ?_ ?_ _) | (with_reducible refine Below.drew ?_) | (with_reducible refine below_drewN ?_ _) | (with_reducible refine Below.setCell ?_ ?_ _) | (with_reducible refine below_step ?_ (by with_reducible assumption) ?_) | (with_reducible exact Nat.le_refl _) | omega | (simp; omega) | (simp; done))))))).mono ?_
        rintro e w2 ⟨rfl, hb2⟩
        have R_n_2 : Row w2 (w.heap.size) [.int .i64 n0, .int .i64 n1, .slice a zs.length cap] := by (repeat' (first | (with_reducible assumption) | (with_reducible refine Row.new' _ _ _ (by first | rfl | (simp; done) | omega)) | (with_reducible refine Row.alloc ?_ _) | (with_reducible refine Row.drew ?_) | (with_reducible refine Row.drewN ?_ _) | (with_reducible refine Row.step ?_ (by with_reducible assumption)) | (with_reducible refine Row.set2' ?_ _ _; first | exact ⟨_, _, by with_reducible assumption⟩ | exact ⟨_, _, Row.alloc (by with_reducible assumption) _⟩ | exact ⟨_, _, Row.alloc (Row.alloc (by with_reducible assumption) _) _⟩) | (with_reducible refine Row.other ?_ (by first | omega | (simp; done) | (simp; omega)) _)))
        have c_n_0_2 := R_n_2.cell 0 rfl
        have c_n_1_2 := R_n_2.cell 1 rfl
        have c_n_2_2 := R_n_2.cell 2 rfl
        have l_n_2 := R_n_2.lt
        replace K := K.step (show Below w1.heap.size w1 w2 by (repeat' (first | (with_reducible exact Below.refl _ _) | (with_reducible assumption) | (with_reducible exact Bw.out (by with_reducible assumption)) | (with_reducible refine bw_alloc ?_ _) | (with_reducible refine bw_step ?_ (by with_reducible assumption)) | (with_reducible refine Below.alloc ?_ ?_ _) | (with_reducible refine Below.drew ?_) | (with_reducible refine below_drewN ?_ _) | (with_reducible refine Below.setCell ?_ ?_ _) | (with_reducible refine below_step ?_ (by with_reducible assumption) ?_) | (with_reducible exact Nat.le_refl _) | omega | (simp; omega) | (simp; done))))
        have HB2 : Below w.heap.size w w2 := by (repeat' (first | (with_reducible exact Below.refl _ _) | (with_reducible assumption) | (with_reducible exact Bw.out (by with_reducible assumption)) | (with_reducible refine bw_alloc ?_ _) | (with_reducible refine bw_step ?_ (by with_reducible assumption)) | (with_reducible refine Below.alloc ?_ ?_ _) | (with_reducible refine Below.drew ?_) | (with_reducible refine below_drewN ?_ _) | (with_reducible refine Below.setCell ?_ ?_ _) | (with_reducible refine below_step ?_ (by with_reducible assumption) ?_) | (with_reducible exact Nat.le_refl _) | omega | (simp; omega) | (simp; done)))
        clear R_n_1 c_n_0_1 c_n_1_1 c_n_2_1 hb1 HB1
        go_wp2_with fail
        refine (grant_err n0 n1 ch r 3 _ _ _ zs _ (K.step (by (repeat' (first | (with_reducible exact Below.refl _ _) | (with_reducible assumption) | (with_reducible exact Bw.out (by with_reducible assumption)) | (with_reducible refine bw_alloc ?_ _) | (with_reducible refine bw_step ?_ (by with_reducible assumption)) | (with_reducible refine Below.alloc ?_ ?_ _) | (with_reducible refine Below.drew ?_) | (with_reducible refine below_drewN ?_ _) | (with_reducible refine Below.setCell ?_ ?_ _) | (with_reducible refine below_step ?_ (by with_reducible assumption) ?_) | (with_reducible exact Nat.le_refl _) | omega | (simp; omega) | (simp; done))))) ⟨r1, r2⟩ hE (by omega)).mono ?_
        rintro e w3 ⟨b, d, rfl, K2, hb3⟩
        have R_n_3 : Row w3 (w.heap.size) [.int .i64 n0, .int .i64 n1, .slice a zs.length cap] := by (repeat' (first | (with_reducible assumption) | (with_reducible refine Row.new' _ _ _ (by first | rfl | (simp; done) | omega)) | (with_reducible refine Row.alloc ?_ _) | (with_reducible refine Row.drew ?_) | (with_reducible refine Row.drewN ?_ _) | (with_reducible refine Row.step ?_ (by with_reducible assumption)) | (with_reducible refine Row.set2' ?_ _ _; first | exact ⟨_, _, by with_reducible assumption⟩ | exact ⟨_, _, Row.alloc (by with_reducible assumption) _⟩ | exact ⟨_, _, Row.alloc (Row.alloc (by with_reducible assumption) _) _⟩) | (with_reducible refine Row.other ?_ (by first | omega | (simp; done) | (simp; omega)) _)))
        have c_n_0_3 := R_n_3.cell 0 rfl
        have c_n_1_3 := R_n_3.cell 1 rfl
        have c_n_2_3 := R_n_3.cell 2 rfl
        have l_n_3 := R_n_3.lt
        replace K := K.step (show Below w2.heap.size w2 w3 by (repeat' (first | (with_reducible exact Below.refl _ _) | (with_reducible assumption) | (with_reducible exact Bw.out (by with_reducible assumption)) | (with_reducible refine bw_alloc ?_ _) | (with_reducible refine bw_step ?_ (by with_reducible assumption)) | (with_reducible refine Below.alloc ?_ ?_ _) | (with_reducible refine Below.drew ?_) | (with_reducible refine below_drewN ?_ _) | (with_reducible refine Below.setCell ?_ ?_ _) | (with_reducible refine below_step ?_ (by with_reducible assumption) ?_) | (with_reducible exact Nat.le_refl _) | omega | (simp; omega) | (simp; done))))
        have HB3 : Below w.heap.size w w3 := by (repeat' (first | (with_reducible exact Below.refl _ _) | (with_reducible assumption) | (with_reducible exact Bw.out (by with_reducible assumption)) | (with_reducible refine bw_alloc ?_ _) | (with_reducible refine bw_step ?_ (by with_reducible assumption)) | (with_reducible refine Below.alloc ?_ ?_ _) | (with_reducible refine Below.drew ?_) | (with_reducible refine below_drewN ?_ _) | (with_reducible refine Below.setCell ?_ ?_ _) | (with_reducible refine below_step ?_ (by with_reducible assumption) ?_) | (with_reducible exact Nat.le_refl _) | omega | (simp; omega) | (simp; done)))
        clear R_n_2 c_n_0_2 c_n_1_2 c_n_2_2 hb2 HB2
        go_wp2_with fail
        refine (R_same_c _ _ _ _ _ _ _ _ _ _ [] [] true _ (K2.step (by (repeat' (first | (with_reducible exact Below.refl _ _) | (with_reducible assumption) | (with_reducible exact Bw.out (by with_reducible assumption)) | (with_reducible refine bw_alloc ?_ _) | (with_reducible refine bw_step ?_ (by with_reducible assumption)) | (with_reducible refine Below.alloc ?_ ?_ _) | (with_reducible refine Below.drew ?_) | (with_reducible refine below_drewN ?_ _) | (with_reducible refine Below.setCell ?_ ?_ _) | (with_reducible refine below_step ?_ (by with_reducible assumption) ?_) | (with_reducible exact Nat.le_refl _) | omega | (simp; omega) | (simp; done))))) (SlC.nil _) (by decide +kernel)).mono ?_
        rintro e w4 ⟨rfl, hb4⟩
        have R_n_4 : Row w4 (w.heap.size) [.int .i64 n0, .int .i64 n1, .slice a zs.length cap] := by (repeat' (first | (with_reducible assumption) | (with_reducible refine Row.new' _ _ _ (by first | rfl | (simp; done) | omega)) | (with_reducible refine Row.alloc ?_ _) | (with_reducible refine Row.drew ?_) | (with_reducible refine Row.drewN ?_ _) | (with_reducible refine Row.step ?_ (by with_reducible assumption)) | (with_reducible refine Row.set2' ?_ _ _; first | exact ⟨_, _, by with_reducible assumption⟩ | exact ⟨_, _, Row.alloc (by with_reducible assumption) _⟩ | exact ⟨_, _, Row.alloc (Row.alloc (by with_reducible assumption) _) _⟩) | (with_reducible refine Row.other ?_ (by first | omega | (simp; done) | (simp; omega)) _)))
        have c_n_0_4 := R_n_4.cell 0 rfl
        have c_n_1_4 := R_n_4.cell 1 rfl
        have c_n_2_4 := R_n_4.cell 2 rfl
        have l_n_4 := R_n_4.lt
        replace K := K.step (show Below w3.heap.size w3 w4 by (repeat' (first | (with_reducible exact Below.refl _ _) | (with_reducible assumption) | (with_reducible exact Bw.out (by with_reducible assumption)) | (with_reducible refine bw_alloc ?_ _) | (with_reducible refine bw_step ?_ (by with_reducible assumption)) | (with_reducible refine Below.alloc ?_ ?_ _) | (with_reducible refine Below.drew ?_) | (with_reducible refine below_drewN ?_ _) | (with_reducible refine Below.setCell ?_ ?_ _) | (with_reducible refine below_step ?_ (by with_reducible assumption) ?_) | (with_reducible exact Nat.le_refl _) | omega | (simp; omega) | (simp; done))))
        have HB4 : Below w.heap.size w w4 := by (repeat' (first | (with_reducible exact Below.refl _ _) | (with_reducible assumption) | (with_reducible exact Bw.out (by with_reducible assumption)) | (with_reducible refine bw_alloc ?_ _) | (with_reducible refine bw_step ?_ (by with_reducible assumption)) | (with_reducible refine Below.alloc ?_ ?_ _) | (with_reducible refine Below.drew ?_) | (with_reducible refine below_drewN ?_ _) | (with_reducible refine Below.setCell ?_ ?_ _) | (with_reducible refine below_step ?_ (by with_reducible assumption) ?_) | (with_reducible exact Nat.le_refl _) | omega | (simp; omega) | (simp; done)))
        clear R_n_3 c_n_0_3 c_n_1_3 c_n_2_3 hb3 HB3
        go_wp2_with fail
        go_ret
        refine ⟨(by first | rfl | exact ret_bool (by first | rfl | (simp; done) | (simp; omega))), ?_⟩
        (repeat' (first | (with_reducible exact Below.refl _ _) | (with_reducible assumption) | (with_reducible exact Bw.out (by with_reducible assumption)) | (with_reducible refine bw_alloc ?_ _) | (with_reducible refine bw_step ?_ (by with_reducible assumption)) | (with_reducible refine Below.alloc ?_ ?_ _) | (with_reducible refine Below.drew ?_) | (with_reducible refine below_drewN ?_ _) | (with_reducible refine Below.setCell ?_ ?_ _) | (with_reducible refine below_step ?_ (by with_reducible assumption) ?_) | (with_reducible exact Nat.le_refl _) | omega | (simp; omega) | (simp; done)))
  · have hl' : (30 : Int) < (zs.length : Int) := by omega
    go_enter Try.func7, Try.ntmps7
    go_wp2_with fail
    refine (head_any _).mono ?_
    rintro e w1 ⟨rfl, hb1⟩
    have R_n_1 : Row w1 (w.heap.size) [.int .i64 n0, .int .i64 n1, .slice a zs.length cap] := by (repeat' (first | (with_reducible assumption) | (with_reducible refine Row.new' _ _ _ (by first | rfl | (simp; done) | omega)) | (with_reducible refine Row.alloc ?_ _) | (with_reducible refine Row.drew ?_) | (with_reducible refine Row.drewN ?_ _) | (with_reducible refine Row.step ?_ (by with_reducible assumption)) | (with_reducible refine Row.set2' ?_ _ _; first | exact ⟨_, _, by with_reducible assumption⟩ | exact ⟨_, _, Row.alloc (by with_reducible assumption) _⟩ | exact ⟨_, _, Row.alloc (Row.alloc (by with_reducible assumption) _) _⟩) | (with_reducible refine Row.other ?_ (by first | omega | (simp; done) | (simp; omega)) _)))
    have c_n_0_1 := R_n_1.cell 0 rfl
    have c_n_1_1 := R_n_1.cell 1 rfl
    have c_n_2_1 := R_n_1.cell 2 rfl
    have l_n_1 := R_n_1.lt
    replace K := K.step (show Below w.heap.size w w1 by (repeat' (first | (with_reducible exact Below.refl _ _) | (with_reducible assumption) | (with_reducible exact Bw.out (by with_reducible assumption)) | (with_reducible refine bw_alloc ?_ _) | (with_reducible refine bw_step ?_ (by with_reducible assumption)) | (with_reducible refine Below.alloc ?_ ?_ _) | (with_reducible refine Below.drew ?_) | (with_reducible refine below_drewN ?_ _) | (with_reducible refine Below.setCell ?_ ?_ _) | (with_reducible refine below_step ?_ (by with_reducible assumption) ?_) | (with_reducible exact Nat.le_refl _) | omega | (simp; omega) | (simp; done))))
    have HB1 : Below w.heap.size w w1 := by (repeat' (first | (with_reducible exact Below.refl _ _) | (with_reducible assumption) | (with_reducible exact Bw.out (by with_reducible assumption)) | (with_reducible refine bw_alloc ?_ _) | (with_reducible refine bw_step ?_ (by with_reducible assumption)) | (with_reducible refine Below.alloc ?_ ?_ _) | (with_reducible refine Below.drew ?_) | (with_reducible refine below_drewN ?_ _) | (with_reducible refine Below.setCell ?_ ?_ _) | (with_reducible refine below_step ?_ (by with_reducible assumption) ?_) | (with_reducible exact Nat.le_refl _) | omega | (simp; omega) | (simp; done)))
    go_wp2_with fail
    go_ret
    refine ⟨(by first | rfl | exact ret_bool (by first | rfl | (simp; done) | (simp; omega))), ?_⟩
    (repeat' (first | (with_reducible exact Below.refl _ _) | (with_reducible assumption) | (with_reducible exact Bw.out (by with_reducible assumption)) | (with_reducible refine bw_alloc ?_ _) | (with_reducible refine bw_step ?_ (by with_reducible assumption)) | (with_reducible refine Below.alloc ?_ ?_ _) | (with_reducible refine Below.drew ?_) | (with_reducible refine below_drewN ?_ _) | (with_reducible refine Below.setCell ?_ ?_ _) | (with_reducible refine below_step ?_ (by with_reducible assumption) ?_) | (with_reducible exact Nat.le_refl _) | omega | (simp; omega) | (simp; done)))


set_option maxRecDepth 100000 in
theorem shareGrants_lifted (os : Os) (started : os.Started) (H : Type) (enc : TypeId × Value → H) :
    ReturnsInHanded {} Try.checked os 7 .any (Rows.shareGrantsSpec.pre6 enc Try.prog Try.f7 Rows.shareGrantsRow.domain false) (Rows.shareGrantsSpec.post enc Try.prog Try.f7 false true false false) := by
  refine returnsInHanded_of_change (C := Try.checked) own started (by kernel_rfl) Try.func7
    (ChangeSpec.witness6 (enc := enc) (C := Try.checked) false ⟨#[], #[.agg #[.int .i64 0, .int .i64 0, .slice none 0 0], .int .i64 0, .int .i64 0], []⟩ 8 (by kernel_rfl) (by kernel_rfl) (by kernel_rfl) (by kernel_rfl)) ?_
  intro W base args ds gs before hval0 hW _ _
  have hval : ∀ (j : Nat) t v, Try.f7.params[j]? = some t → args[j]? = some v → Value.okWide Try.prog W .any base t v := hval0
  have hW' := hW
  obtain ⟨p, q, hA0, hV, rfl, hfz, hnd⟩ := hW
  obtain ⟨rfl, rfl⟩ := trodVars_none hV
  have hA : DataW.TrodAll enc Try.prog W 0 (fun _ => true) true Try.f7.params.toList args.toList ds p := hA0
  rw [Try.params7] at hA hval
  obtain ⟨v0, vs0, d0, ds0, p0, q0, hargs, rfl, rfl, h0, r0⟩ := trodAll_cons hA
  obtain ⟨v1, vs1, d1, ds1, p1, q1, rfl, rfl, rfl, h1, r1⟩ := trodAll_cons r0
  obtain ⟨v2, vs2, d2, ds2, p2, q2, rfl, rfl, rfl, h2, r2⟩ := trodAll_cons r1
  obtain ⟨rfl, rfl, rfl⟩ := trodAll_nil r2
  obtain rfl : args = #[v0, v1, v2] := by cases args; simp_all
  obtain ⟨c00, c01, v_n, y00, y01, y02, m0, rfl, rfl, rfl, hy00, hy01, hy02⟩ := Go.Joins.open_agg3 Try.underlying25 (by kernel_rfl) (by kernel_rfl) (hval 0 25 v0 rfl rfl) h0
  obtain ⟨n0, e00, rfl, wn0⟩ := DataW.trod_int Try.underlying3 hy00
  simp only [List.cons.injEq, and_true] at e00
  subst e00
  obtain ⟨n1, e01, rfl, wn1⟩ := DataW.trod_int Try.underlying3 hy01
  simp only [List.cons.injEq, and_true] at e01
  subst e01
  obtain ⟨zs_n, hs_n, wf_n⟩ := slv_of_ints hy02
  obtain ⟨c, rfl, rfl, rfl, wc⟩ := open_int Try.underlying3 (hval 1 3 v1 rfl rfl) h1
  obtain ⟨r, rfl, rfl, rfl, wr⟩ := open_int Try.underlying3 (hval 2 3 v2 rfl rfl) h2
  clear hA0 hval0
  refine (grants_walk n0 n1 v_n zs_n c r wn0 wn1 wf_n wc wr W hs_n).mono fun e W' ⟨he, hb⟩ => ?_
  subst he
  exact ⟨_, rfl, law_post (B := 4) laidOut (by rw [Try.params7]; simp only [List.mem_cons, List.not_mem_nil, or_false, forall_eq_or_imp, forall_eq]; first | exact readable_shareGrants | (repeat' apply And.intro) <;> first | exact of_decide_eq_true (by kernel_rfl) | kernel_rfl) rfl Try.underlying4 rfl rfl hW' hb⟩

theorem shareGrants_over : Rows.shareGrantsRow.holds Try.pinned (OpenSpec.ofChange Rows.shareGrantsSpec) :=
  OpenClaim.holds_of_wide 7 Try.f7 rfl rfl rfl rfl rfl rfl rfl ⟨rfl, rfl, rfl, rfl, rfl⟩ rfl rfl rfl rfl rfl (by kernel_rfl) Try.func7 (by kernel_rfl)
    (of_decide_eq_true (by kernel_rfl)) (by unfold Func.isWrapper; first | (rw [if_pos (by decide +kernel)]; kernel_rfl) | (rw [if_neg (by decide +kernel)]; exact ⟨rfl, rfl⟩))
    (fun os started H enc _ => shareGrants_lifted os started H enc)

theorem shareGrants_holds : Rows.ShareGrantsSaid := shareGrants_over
#print axioms shareGrants_holds
end Go.Proofs.Ytegkonedeledeaa
