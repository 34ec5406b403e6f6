/-
  The walk of law18's head: the examples.
-/
import Derived.Test.YtbafhmlmibjgpaaColK
namespace Go.Proofs.Ytbafhmlmibjgpaa
set_option linter.unusedSimpArgs false
set_option linter.unusedVariables false
open Go.RowKit

theorem R_same_c (v u : Value) (zs ys : List Int) (w : World) (hv : SlV w v zs) (hu : SlV w u ys) (b : Bool) (hb : decide (zs = ys) = b) :
    Calls Try.prog 13 #[v, u] w fun e w' => e = .returned (.bool b) ∧ Below w.heap.size w w' := by
  rw [← hb]; exact R_sameInts v u zs ys w hv hu
theorem SlV.lit {w : World} {g n : Nat} {cs : List Value} {zs : List Int} (h : Row w g cs) (hz : cs = zs.map (Value.int .i64)) (hn : zs.length = n) (hm : n ≤ 1000) : SlV w (.slice (some ⟨g, 0, none⟩) n n) zs := by
  subst hn
  subst hz
  exact ⟨_, _, rfl, SlI.row (rest := []) (by simpa using h) rfl, Nat.le_refl _, by unfold maxLen; omega⟩
theorem SlV.form {w : World} {v : Value} {zs : List Int} (h : SlV w v zs) {m : Nat} (hm : zs.length = m) : ∃ ad cp, v = .slice ad m cp ∧ SlV w (.slice ad m cp) zs := by
  have h' := h
  obtain ⟨ad, cp, e, _⟩ := h
  subst hm
  exact ⟨ad, cp, e, e ▸ h'⟩

abbrev l4 : List SpV := [(0, 3), (2, 5), (3, 6), (1, 2)]
theorem slp4 {w : World} {B : Nat} (hr : Row w B [.int .i64 0, .int .i64 3, .int .i64 2, .int .i64 5, .int .i64 3, .int .i64 6, .int .i64 1, .int .i64 2]) : SlP w (some ⟨B, 0, none⟩) 4 l4 := ⟨rfl, fun i x hx => by
    match i, hx with
    | 0, hx => cases hx; exact ⟨B, 0, rfl, hr.cell 0 rfl, hr.cell 1 rfl⟩
    | 1, hx => cases hx; exact ⟨B, 0, rfl, hr.cell 2 rfl, hr.cell 3 rfl⟩
    | 2, hx => cases hx; exact ⟨B, 0, rfl, hr.cell 4 rfl, hr.cell 5 rfl⟩
    | 3, hx => cases hx; exact ⟨B, 0, rfl, hr.cell 6 rfl, hr.cell 7 rfl⟩
    | i + 4, hx => simp at hx⟩
theorem slp1 {w : World} {B : Nat} {f u : Int} (hr : Row w B [.int .i64 f, .int .i64 u]) : SlP w (some ⟨B, 0, none⟩) 1 [(f, u)] := ⟨rfl, fun i x hx => by
    match i, hx with
    | 0, hx => cases hx; exact ⟨B, 0, rfl, hr.cell 0 rfl, hr.cell 1 rfl⟩
    | i + 1, hx => simp at hx⟩
theorem l4_chk : chkE l4 = 0 := by decide +kernel
theorem l4_col : colO l4 = [0, 1, 0, 1] ∧ (colE l4).length = 2 := by decide +kernel
theorem l4_clq : clqL l4 = (1, 2) ∧ onL l4 1 = [0, 3] := by decide +kernel
theorem l4_fit : fitA l4 2 = [0, 1, 0, 1] ∧ fitB l4 2 = [] ∧ fitA l4 1 = [] ∧ fitB l4 1 = [0, 3] := by decide +kernel

theorem hd_col (B : Nat) (w : World) (hr : Row w B [.int .i64 0, .int .i64 3, .int .i64 2, .int .i64 5, .int .i64 3, .int .i64 6, .int .i64 1, .int .i64 2]) :
    Calls Try.prog 11 #[.slice (some ⟨B, 0, none⟩) 4 4] w fun e w' => ∃ v, e = .returned (.tuple #[v, .int .i64 2, .int .i64 0]) ∧ SlV w' v [0, 1, 0, 1] ∧ Below w.heap.size w w' := by
  refine (Colours_ok _ 4 4 l4 w (by omega) (slp4 hr) l4_chk).mono ?_
  rintro e w' ⟨v, rfl, hv, hb⟩
  rw [l4_col.1] at hv
  rw [l4_col.2]
  exact ⟨v, rfl, hv.sl, hb⟩
theorem hd_clq (B : Nat) (w : World) (hr : Row w B [.int .i64 0, .int .i64 3, .int .i64 2, .int .i64 5, .int .i64 3, .int .i64 6, .int .i64 1, .int .i64 2]) :
    Calls Try.prog 14 #[.slice (some ⟨B, 0, none⟩) 4 4] w fun e w' => ∃ v, e = .returned (.tuple #[v, .int .i64 1, .int .i64 0]) ∧ SlV w' v [0, 3] ∧ Below w.heap.size w w' := by
  refine (Clique_ok _ 4 4 l4 w (by omega) (slp4 hr) l4_chk).mono ?_
  rintro e w' ⟨v, rfl, hv, hb⟩
  rw [l4_clq.1] at hv ⊢
  rw [l4_clq.2] at hv
  exact ⟨v, rfl, hv, hb⟩
theorem hd_fit2 (B : Nat) (w : World) (hr : Row w B [.int .i64 0, .int .i64 3, .int .i64 2, .int .i64 5, .int .i64 3, .int .i64 6, .int .i64 1, .int .i64 2]) :
    Calls Try.prog 16 #[.slice (some ⟨B, 0, none⟩) 4 4, .int .i64 2] w fun e w' => ∃ v ad cp, e = .returned (.tuple #[v, .slice ad 0 cp, .int .i64 0]) ∧ SlV w' v [0, 1, 0, 1] ∧ Below w.heap.size w w' := by
  refine (Fits_nat _ 4 4 l4 2 2 w (by omega) (slp4 hr) rfl (by omega) l4_chk).mono ?_
  rintro e w' ⟨v, u, rfl, hv, hu, hb⟩
  rw [l4_fit.1] at hv
  rw [l4_fit.2.1] at hu
  obtain ⟨ad, cp, rfl, _⟩ := hu
  exact ⟨v, ad, cp, rfl, hv, hb⟩
theorem hd_fit1 (B : Nat) (w : World) (hr : Row w B [.int .i64 0, .int .i64 3, .int .i64 2, .int .i64 5, .int .i64 3, .int .i64 6, .int .i64 1, .int .i64 2]) :
    Calls Try.prog 16 #[.slice (some ⟨B, 0, none⟩) 4 4, .int .i64 1] w fun e w' => ∃ ad cp v, e = .returned (.tuple #[.slice ad 0 cp, v, .int .i64 0]) ∧ SlV w' v [0, 3] ∧ Below w.heap.size w w' := by
  refine (Fits_nat _ 4 4 l4 1 1 w (by omega) (slp4 hr) rfl (by omega) l4_chk).mono ?_
  rintro e w' ⟨v, u, rfl, hv, hu, hb⟩
  rw [l4_fit.2.2.1] at hv
  rw [l4_fit.2.2.2] at hu
  obtain ⟨ad, cp, rfl, _⟩ := hv
  exact ⟨ad, cp, u, rfl, hu, hb⟩

set_option maxRecDepth 100000 in
set_option maxHeartbeats 6400000 in
theorem c_head_any (w : World) : Calls Try.prog 10 #[] w fun e w' => e = .returned (.bool true) ∧ Below w.heap.size w w' := by
  go_enter Try.func10, Try.ntmps10
  go_wp2_with fail
  refine (hd_col _ _ (by (repeat' (first | (with_reducible assumption) | (with_reducible refine Row.new' _ _ _ (by first | rfl | (simp; done) | omega)) | (with_reducible refine Row.alloc ?_ _) | (with_reducible refine Row.drew ?_) | (with_reducible refine Row.drewN ?_ _) | (with_reducible refine Row.step ?_ (by with_reducible assumption)))))).mono ?_
  rintro e w1 ⟨v1, rfl, V1, hb1⟩
  have R_l_1 : Row w1 (w.heap.size) [.int .i64 (0), .int .i64 (3), .int .i64 (2), .int .i64 (5), .int .i64 (3), .int .i64 (6), .int .i64 (1), .int .i64 (2)] := by (repeat' (first | (with_reducible assumption) | (with_reducible refine Row.new' _ _ _ (by first | rfl | (simp; done) | omega)) | (with_reducible refine Row.alloc ?_ _) | (with_reducible refine Row.drew ?_) | (with_reducible refine Row.drewN ?_ _) | (with_reducible refine Row.step ?_ (by with_reducible assumption)) | (with_reducible refine Row.set2' ?_ _ _; first | exact ⟨_, _, by with_reducible assumption⟩ | exact ⟨_, _, Row.alloc (by with_reducible assumption) _⟩ | exact ⟨_, _, Row.alloc (Row.alloc (by with_reducible assumption) _) _⟩) | (with_reducible refine Row.other ?_ (by first | omega | (simp; done) | (simp; omega)) _)))
  have c_l_0_1 := R_l_1.cell 0 rfl
  have c_l_1_1 := R_l_1.cell 1 rfl
  have c_l_2_1 := R_l_1.cell 2 rfl
  have c_l_3_1 := R_l_1.cell 3 rfl
  have c_l_4_1 := R_l_1.cell 4 rfl
  have c_l_5_1 := R_l_1.cell 5 rfl
  have c_l_6_1 := R_l_1.cell 6 rfl
  have c_l_7_1 := R_l_1.cell 7 rfl
  have l_l_1 := R_l_1.lt
  have HB1 : Below w.heap.size w w1 := by (repeat' (first | (with_reducible exact Below.refl _ _) | (with_reducible assumption) | (with_reducible exact Bw.out (by with_reducible assumption)) | (with_reducible refine bw_alloc ?_ _) | (with_reducible refine bw_step ?_ (by with_reducible assumption)) | (with_reducible refine Below.alloc ?_ ?_ _) | (with_reducible refine Below.drew ?_) | (with_reducible refine below_drewN ?_ _) | (with_reducible refine Below.setCell ?_ ?_ _) | (with_reducible refine below_step ?_ (by with_reducible assumption) ?_) | (with_reducible exact Nat.le_refl _) | omega | (simp; omega) | (simp; done)))
  go_wp2_with fail
  refine (hd_clq _ _ (by (repeat' (first | (with_reducible assumption) | (with_reducible refine Row.new' _ _ _ (by first | rfl | (simp; done) | omega)) | (with_reducible refine Row.alloc ?_ _) | (with_reducible refine Row.drew ?_) | (with_reducible refine Row.drewN ?_ _) | (with_reducible refine Row.step ?_ (by with_reducible assumption)))))).mono ?_
  rintro e w2 ⟨v2, rfl, V2, hb2⟩
  have R_l_2 : Row w2 (w.heap.size) [.int .i64 (0), .int .i64 (3), .int .i64 (2), .int .i64 (5), .int .i64 (3), .int .i64 (6), .int .i64 (1), .int .i64 (2)] := by (repeat' (first | (with_reducible assumption) | (with_reducible refine Row.new' _ _ _ (by first | rfl | (simp; done) | omega)) | (with_reducible refine Row.alloc ?_ _) | (with_reducible refine Row.drew ?_) | (with_reducible refine Row.drewN ?_ _) | (with_reducible refine Row.step ?_ (by with_reducible assumption)) | (with_reducible refine Row.set2' ?_ _ _; first | exact ⟨_, _, by with_reducible assumption⟩ | exact ⟨_, _, Row.alloc (by with_reducible assumption) _⟩ | exact ⟨_, _, Row.alloc (Row.alloc (by with_reducible assumption) _) _⟩) | (with_reducible refine Row.other ?_ (by first | omega | (simp; done) | (simp; omega)) _)))
  have c_l_0_2 := R_l_2.cell 0 rfl
  have c_l_1_2 := R_l_2.cell 1 rfl
  have c_l_2_2 := R_l_2.cell 2 rfl
  have c_l_3_2 := R_l_2.cell 3 rfl
  have c_l_4_2 := R_l_2.cell 4 rfl
  have c_l_5_2 := R_l_2.cell 5 rfl
  have c_l_6_2 := R_l_2.cell 6 rfl
  have c_l_7_2 := R_l_2.cell 7 rfl
  have l_l_2 := R_l_2.lt
  replace V1 := V1.step (show Below w1.heap.size w1 w2 by (repeat' (first | (with_reducible exact Below.refl _ _) | (with_reducible assumption) | (with_reducible exact Bw.out (by with_reducible assumption)) | (with_reducible refine bw_alloc ?_ _) | (with_reducible refine bw_step ?_ (by with_reducible assumption)) | (with_reducible refine Below.alloc ?_ ?_ _) | (with_reducible refine Below.drew ?_) | (with_reducible refine below_drewN ?_ _) | (with_reducible refine Below.setCell ?_ ?_ _) | (with_reducible refine below_step ?_ (by with_reducible assumption) ?_) | (with_reducible exact Nat.le_refl _) | omega | (simp; omega) | (simp; done))))
  have HB2 : Below w.heap.size w w2 := by (repeat' (first | (with_reducible exact Below.refl _ _) | (with_reducible assumption) | (with_reducible exact Bw.out (by with_reducible assumption)) | (with_reducible refine bw_alloc ?_ _) | (with_reducible refine bw_step ?_ (by with_reducible assumption)) | (with_reducible refine Below.alloc ?_ ?_ _) | (with_reducible refine Below.drew ?_) | (with_reducible refine below_drewN ?_ _) | (with_reducible refine Below.setCell ?_ ?_ _) | (with_reducible refine below_step ?_ (by with_reducible assumption) ?_) | (with_reducible exact Nat.le_refl _) | omega | (simp; omega) | (simp; done)))
  clear R_l_1 c_l_0_1 c_l_1_1 c_l_2_1 c_l_3_1 c_l_4_1 c_l_5_1 c_l_6_1 c_l_7_1 hb1 HB1
  go_wp2_with fail
  refine (hd_fit2 _ _ (by (repeat' (first | (with_reducible assumption) | (with_reducible refine Row.new' _ _ _ (by first | rfl | (simp; done) | omega)) | (with_reducible refine Row.alloc ?_ _) | (with_reducible refine Row.drew ?_) | (with_reducible refine Row.drewN ?_ _) | (with_reducible refine Row.step ?_ (by with_reducible assumption)))))).mono ?_
  rintro e w3 ⟨v3, a3, d3, rfl, V3, hb3⟩
  have R_l_3 : Row w3 (w.heap.size) [.int .i64 (0), .int .i64 (3), .int .i64 (2), .int .i64 (5), .int .i64 (3), .int .i64 (6), .int .i64 (1), .int .i64 (2)] := by (repeat' (first | (with_reducible assumption) | (with_reducible refine Row.new' _ _ _ (by first | rfl | (simp; done) | omega)) | (with_reducible refine Row.alloc ?_ _) | (with_reducible refine Row.drew ?_) | (with_reducible refine Row.drewN ?_ _) | (with_reducible refine Row.step ?_ (by with_reducible assumption)) | (with_reducible refine Row.set2' ?_ _ _; first | exact ⟨_, _, by with_reducible assumption⟩ | exact ⟨_, _, Row.alloc (by with_reducible assumption) _⟩ | exact ⟨_, _, Row.alloc (Row.alloc (by with_reducible assumption) _) _⟩) | (with_reducible refine Row.other ?_ (by first | omega | (simp; done) | (simp; omega)) _)))
  have c_l_0_3 := R_l_3.cell 0 rfl
  have c_l_1_3 := R_l_3.cell 1 rfl
  have c_l_2_3 := R_l_3.cell 2 rfl
  have c_l_3_3 := R_l_3.cell 3 rfl
  have c_l_4_3 := R_l_3.cell 4 rfl
  have c_l_5_3 := R_l_3.cell 5 rfl
  have c_l_6_3 := R_l_3.cell 6 rfl
  have c_l_7_3 := R_l_3.cell 7 rfl
  have l_l_3 := R_l_3.lt
  replace V1 := V1.step (show Below w2.heap.size w2 w3 by (repeat' (first | (with_reducible exact Below.refl _ _) | (with_reducible assumption) | (with_reducible exact Bw.out (by with_reducible assumption)) | (with_reducible refine bw_alloc ?_ _) | (with_reducible refine bw_step ?_ (by with_reducible assumption)) | (with_reducible refine Below.alloc ?_ ?_ _) | (with_reducible refine Below.drew ?_) | (with_reducible refine below_drewN ?_ _) | (with_reducible refine Below.setCell ?_ ?_ _) | (with_reducible refine below_step ?_ (by with_reducible assumption) ?_) | (with_reducible exact Nat.le_refl _) | omega | (simp; omega) | (simp; done))))
  replace V2 := V2.step (show Below w2.heap.size w2 w3 by (repeat' (first | (with_reducible exact Below.refl _ _) | (with_reducible assumption) | (with_reducible exact Bw.out (by with_reducible assumption)) | (with_reducible refine bw_alloc ?_ _) | (with_reducible refine bw_step ?_ (by with_reducible assumption)) | (with_reducible refine Below.alloc ?_ ?_ _) | (with_reducible refine Below.drew ?_) | (with_reducible refine below_drewN ?_ _) | (with_reducible refine Below.setCell ?_ ?_ _) | (with_reducible refine below_step ?_ (by with_reducible assumption) ?_) | (with_reducible exact Nat.le_refl _) | omega | (simp; omega) | (simp; done))))
  have HB3 : Below w.heap.size w w3 := by (repeat' (first | (with_reducible exact Below.refl _ _) | (with_reducible assumption) | (with_reducible exact Bw.out (by with_reducible assumption)) | (with_reducible refine bw_alloc ?_ _) | (with_reducible refine bw_step ?_ (by with_reducible assumption)) | (with_reducible refine Below.alloc ?_ ?_ _) | (with_reducible refine Below.drew ?_) | (with_reducible refine below_drewN ?_ _) | (with_reducible refine Below.setCell ?_ ?_ _) | (with_reducible refine below_step ?_ (by with_reducible assumption) ?_) | (with_reducible exact Nat.le_refl _) | omega | (simp; omega) | (simp; done)))
  clear R_l_2 c_l_0_2 c_l_1_2 c_l_2_2 c_l_3_2 c_l_4_2 c_l_5_2 c_l_6_2 c_l_7_2 hb2 HB2
  go_wp2_with fail
  refine (hd_fit1 _ _ (by (repeat' (first | (with_reducible assumption) | (with_reducible refine Row.new' _ _ _ (by first | rfl | (simp; done) | omega)) | (with_reducible refine Row.alloc ?_ _) | (with_reducible refine Row.drew ?_) | (with_reducible refine Row.drewN ?_ _) | (with_reducible refine Row.step ?_ (by with_reducible assumption)))))).mono ?_
  rintro e w4 ⟨a4, d4, v4, rfl, V4, hb4⟩
  have R_l_4 : Row w4 (w.heap.size) [.int .i64 (0), .int .i64 (3), .int .i64 (2), .int .i64 (5), .int .i64 (3), .int .i64 (6), .int .i64 (1), .int .i64 (2)] := by (repeat' (first | (with_reducible assumption) | (with_reducible refine Row.new' _ _ _ (by first | rfl | (simp; done) | omega)) | (with_reducible refine Row.alloc ?_ _) | (with_reducible refine Row.drew ?_) | (with_reducible refine Row.drewN ?_ _) | (with_reducible refine Row.step ?_ (by with_reducible assumption)) | (with_reducible refine Row.set2' ?_ _ _; first | exact ⟨_, _, by with_reducible assumption⟩ | exact ⟨_, _, Row.alloc (by with_reducible assumption) _⟩ | exact ⟨_, _, Row.alloc (Row.alloc (by with_reducible assumption) _) _⟩) | (with_reducible refine Row.other ?_ (by first | omega | (simp; done) | (simp; omega)) _)))
  have c_l_0_4 := R_l_4.cell 0 rfl
  have c_l_1_4 := R_l_4.cell 1 rfl
  have c_l_2_4 := R_l_4.cell 2 rfl
  have c_l_3_4 := R_l_4.cell 3 rfl
  have c_l_4_4 := R_l_4.cell 4 rfl
  have c_l_5_4 := R_l_4.cell 5 rfl
  have c_l_6_4 := R_l_4.cell 6 rfl
  have c_l_7_4 := R_l_4.cell 7 rfl
  have l_l_4 := R_l_4.lt
  replace V1 := V1.step (show Below w3.heap.size w3 w4 by (repeat' (first | (with_reducible exact Below.refl _ _) | (with_reducible assumption) | (with_reducible exact Bw.out (by with_reducible assumption)) | (with_reducible refine bw_alloc ?_ _) | (with_reducible refine bw_step ?_ (by with_reducible assumption)) | (with_reducible refine Below.alloc ?_ ?_ _) | (with_reducible refine Below.drew ?_) | (with_reducible refine below_drewN ?_ _) | (with_reducible refine Below.setCell ?_ ?_ _) | (with_reducible refine below_step ?_ (by with_reducible assumption) ?_) | (with_reducible exact Nat.le_refl _) | omega | (simp; omega) | (simp; done))))
  replace V2 := V2.step (show Below w3.heap.size w3 w4 by (repeat' (first | (with_reducible exact Below.refl _ _) | (with_reducible assumption) | (with_reducible exact Bw.out (by with_reducible assumption)) | (with_reducible refine bw_alloc ?_ _) | (with_reducible refine bw_step ?_ (by with_reducible assumption)) | (with_reducible refine Below.alloc ?_ ?_ _) | (with_reducible refine Below.drew ?_) | (with_reducible refine below_drewN ?_ _) | (with_reducible refine Below.setCell ?_ ?_ _) | (with_reducible refine below_step ?_ (by with_reducible assumption) ?_) | (with_reducible exact Nat.le_refl _) | omega | (simp; omega) | (simp; done))))
  replace V3 := V3.step (show Below w3.heap.size w3 w4 by (repeat' (first | (with_reducible exact Below.refl _ _) | (with_reducible assumption) | (with_reducible exact Bw.out (by with_reducible assumption)) | (with_reducible refine bw_alloc ?_ _) | (with_reducible refine bw_step ?_ (by with_reducible assumption)) | (with_reducible refine Below.alloc ?_ ?_ _) | (with_reducible refine Below.drew ?_) | (with_reducible refine below_drewN ?_ _) | (with_reducible refine Below.setCell ?_ ?_ _) | (with_reducible refine below_step ?_ (by with_reducible assumption) ?_) | (with_reducible exact Nat.le_refl _) | omega | (simp; omega) | (simp; done))))
  have HB4 : Below w.heap.size w w4 := by (repeat' (first | (with_reducible exact Below.refl _ _) | (with_reducible assumption) | (with_reducible exact Bw.out (by with_reducible assumption)) | (with_reducible refine bw_alloc ?_ _) | (with_reducible refine bw_step ?_ (by with_reducible assumption)) | (with_reducible refine Below.alloc ?_ ?_ _) | (with_reducible refine Below.drew ?_) | (with_reducible refine below_drewN ?_ _) | (with_reducible refine Below.setCell ?_ ?_ _) | (with_reducible refine below_step ?_ (by with_reducible assumption) ?_) | (with_reducible exact Nat.le_refl _) | omega | (simp; omega) | (simp; done)))
  clear R_l_3 c_l_0_3 c_l_1_3 c_l_2_3 c_l_3_3 c_l_4_3 c_l_5_3 c_l_6_3 c_l_7_3 hb3 HB3
  go_wp2_with fail
  refine (Clique_err _ 1 1 [(3, 3)] _ (by omega) (slp1 (by (repeat' (first | (with_reducible assumption) | (with_reducible refine Row.new' _ _ _ (by first | rfl | (simp; done) | omega)) | (with_reducible refine Row.alloc ?_ _) | (with_reducible refine Row.drew ?_) | (with_reducible refine Row.drewN ?_ _) | (with_reducible refine Row.step ?_ (by with_reducible assumption)))))) 1 (by decide +kernel) (by omega)).mono ?_
  rintro e w5 ⟨rfl, hb5⟩
  have R_l_5 : Row w5 (w.heap.size) [.int .i64 (0), .int .i64 (3), .int .i64 (2), .int .i64 (5), .int .i64 (3), .int .i64 (6), .int .i64 (1), .int .i64 (2)] := by (repeat' (first | (with_reducible assumption) | (with_reducible refine Row.new' _ _ _ (by first | rfl | (simp; done) | omega)) | (with_reducible refine Row.alloc ?_ _) | (with_reducible refine Row.drew ?_) | (with_reducible refine Row.drewN ?_ _) | (with_reducible refine Row.step ?_ (by with_reducible assumption)) | (with_reducible refine Row.set2' ?_ _ _; first | exact ⟨_, _, by with_reducible assumption⟩ | exact ⟨_, _, Row.alloc (by with_reducible assumption) _⟩ | exact ⟨_, _, Row.alloc (Row.alloc (by with_reducible assumption) _) _⟩) | (with_reducible refine Row.other ?_ (by first | omega | (simp; done) | (simp; omega)) _)))
  have c_l_0_5 := R_l_5.cell 0 rfl
  have c_l_1_5 := R_l_5.cell 1 rfl
  have c_l_2_5 := R_l_5.cell 2 rfl
  have c_l_3_5 := R_l_5.cell 3 rfl
  have c_l_4_5 := R_l_5.cell 4 rfl
  have c_l_5_5 := R_l_5.cell 5 rfl
  have c_l_6_5 := R_l_5.cell 6 rfl
  have c_l_7_5 := R_l_5.cell 7 rfl
  have l_l_5 := R_l_5.lt
  replace V1 := V1.step (show Below w4.heap.size w4 w5 by (repeat' (first | (with_reducible exact Below.refl _ _) | (with_reducible assumption) | (with_reducible exact Bw.out (by with_reducible assumption)) | (with_reducible refine bw_alloc ?_ _) | (with_reducible refine bw_step ?_ (by with_reducible assumption)) | (with_reducible refine Below.alloc ?_ ?_ _) | (with_reducible refine Below.drew ?_) | (with_reducible refine below_drewN ?_ _) | (with_reducible refine Below.setCell ?_ ?_ _) | (with_reducible refine below_step ?_ (by with_reducible assumption) ?_) | (with_reducible exact Nat.le_refl _) | omega | (simp; omega) | (simp; done))))
  replace V2 := V2.step (show Below w4.heap.size w4 w5 by (repeat' (first | (with_reducible exact Below.refl _ _) | (with_reducible assumption) | (with_reducible exact Bw.out (by with_reducible assumption)) | (with_reducible refine bw_alloc ?_ _) | (with_reducible refine bw_step ?_ (by with_reducible assumption)) | (with_reducible refine Below.alloc ?_ ?_ _) | (with_reducible refine Below.drew ?_) | (with_reducible refine below_drewN ?_ _) | (with_reducible refine Below.setCell ?_ ?_ _) | (with_reducible refine below_step ?_ (by with_reducible assumption) ?_) | (with_reducible exact Nat.le_refl _) | omega | (simp; omega) | (simp; done))))
  replace V3 := V3.step (show Below w4.heap.size w4 w5 by (repeat' (first | (with_reducible exact Below.refl _ _) | (with_reducible assumption) | (with_reducible exact Bw.out (by with_reducible assumption)) | (with_reducible refine bw_alloc ?_ _) | (with_reducible refine bw_step ?_ (by with_reducible assumption)) | (with_reducible refine Below.alloc ?_ ?_ _) | (with_reducible refine Below.drew ?_) | (with_reducible refine below_drewN ?_ _) | (with_reducible refine Below.setCell ?_ ?_ _) | (with_reducible refine below_step ?_ (by with_reducible assumption) ?_) | (with_reducible exact Nat.le_refl _) | omega | (simp; omega) | (simp; done))))
  replace V4 := V4.step (show Below w4.heap.size w4 w5 by (repeat' (first | (with_reducible exact Below.refl _ _) | (with_reducible assumption) | (with_reducible exact Bw.out (by with_reducible assumption)) | (with_reducible refine bw_alloc ?_ _) | (with_reducible refine bw_step ?_ (by with_reducible assumption)) | (with_reducible refine Below.alloc ?_ ?_ _) | (with_reducible refine Below.drew ?_) | (with_reducible refine below_drewN ?_ _) | (with_reducible refine Below.setCell ?_ ?_ _) | (with_reducible refine below_step ?_ (by with_reducible assumption) ?_) | (with_reducible exact Nat.le_refl _) | omega | (simp; omega) | (simp; done))))
  have HB5 : Below w.heap.size w w5 := by (repeat' (first | (with_reducible exact Below.refl _ _) | (with_reducible assumption) | (with_reducible exact Bw.out (by with_reducible assumption)) | (with_reducible refine bw_alloc ?_ _) | (with_reducible refine bw_step ?_ (by with_reducible assumption)) | (with_reducible refine Below.alloc ?_ ?_ _) | (with_reducible refine Below.drew ?_) | (with_reducible refine below_drewN ?_ _) | (with_reducible refine Below.setCell ?_ ?_ _) | (with_reducible refine below_step ?_ (by with_reducible assumption) ?_) | (with_reducible exact Nat.le_refl _) | omega | (simp; omega) | (simp; done)))
  clear R_l_4 c_l_0_4 c_l_1_4 c_l_2_4 c_l_3_4 c_l_4_4 c_l_5_4 c_l_6_4 c_l_7_4 hb4 HB4
  go_wp2_with fail
  refine (Fits_arg _ _ _ (-1) _ (Or.inl (by omega))).mono ?_
  rintro e w6 ⟨rfl, hb6⟩
  have R_l_6 : Row w6 (w.heap.size) [.int .i64 (0), .int .i64 (3), .int .i64 (2), .int .i64 (5), .int .i64 (3), .int .i64 (6), .int .i64 (1), .int .i64 (2)] := by (repeat' (first | (with_reducible assumption) | (with_reducible refine Row.new' _ _ _ (by first | rfl | (simp; done) | omega)) | (with_reducible refine Row.alloc ?_ _) | (with_reducible refine Row.drew ?_) | (with_reducible refine Row.drewN ?_ _) | (with_reducible refine Row.step ?_ (by with_reducible assumption)) | (with_reducible refine Row.set2' ?_ _ _; first | exact ⟨_, _, by with_reducible assumption⟩ | exact ⟨_, _, Row.alloc (by with_reducible assumption) _⟩ | exact ⟨_, _, Row.alloc (Row.alloc (by with_reducible assumption) _) _⟩) | (with_reducible refine Row.other ?_ (by first | omega | (simp; done) | (simp; omega)) _)))
  have c_l_0_6 := R_l_6.cell 0 rfl
  have c_l_1_6 := R_l_6.cell 1 rfl
  have c_l_2_6 := R_l_6.cell 2 rfl
  have c_l_3_6 := R_l_6.cell 3 rfl
  have c_l_4_6 := R_l_6.cell 4 rfl
  have c_l_5_6 := R_l_6.cell 5 rfl
  have c_l_6_6 := R_l_6.cell 6 rfl
  have c_l_7_6 := R_l_6.cell 7 rfl
  have l_l_6 := R_l_6.lt
  replace V1 := V1.step (show Below w5.heap.size w5 w6 by (repeat' (first | (with_reducible exact Below.refl _ _) | (with_reducible assumption) | (with_reducible exact Bw.out (by with_reducible assumption)) | (with_reducible refine bw_alloc ?_ _) | (with_reducible refine bw_step ?_ (by with_reducible assumption)) | (with_reducible refine Below.alloc ?_ ?_ _) | (with_reducible refine Below.drew ?_) | (with_reducible refine below_drewN ?_ _) | (with_reducible refine Below.setCell ?_ ?_ _) | (with_reducible refine below_step ?_ (by with_reducible assumption) ?_) | (with_reducible exact Nat.le_refl _) | omega | (simp; omega) | (simp; done))))
  replace V2 := V2.step (show Below w5.heap.size w5 w6 by (repeat' (first | (with_reducible exact Below.refl _ _) | (with_reducible assumption) | (with_reducible exact Bw.out (by with_reducible assumption)) | (with_reducible refine bw_alloc ?_ _) | (with_reducible refine bw_step ?_ (by with_reducible assumption)) | (with_reducible refine Below.alloc ?_ ?_ _) | (with_reducible refine Below.drew ?_) | (with_reducible refine below_drewN ?_ _) | (with_reducible refine Below.setCell ?_ ?_ _) | (with_reducible refine below_step ?_ (by with_reducible assumption) ?_) | (with_reducible exact Nat.le_refl _) | omega | (simp; omega) | (simp; done))))
  replace V3 := V3.step (show Below w5.heap.size w5 w6 by (repeat' (first | (with_reducible exact Below.refl _ _) | (with_reducible assumption) | (with_reducible exact Bw.out (by with_reducible assumption)) | (with_reducible refine bw_alloc ?_ _) | (with_reducible refine bw_step ?_ (by with_reducible assumption)) | (with_reducible refine Below.alloc ?_ ?_ _) | (with_reducible refine Below.drew ?_) | (with_reducible refine below_drewN ?_ _) | (with_reducible refine Below.setCell ?_ ?_ _) | (with_reducible refine below_step ?_ (by with_reducible assumption) ?_) | (with_reducible exact Nat.le_refl _) | omega | (simp; omega) | (simp; done))))
  replace V4 := V4.step (show Below w5.heap.size w5 w6 by (repeat' (first | (with_reducible exact Below.refl _ _) | (with_reducible assumption) | (with_reducible exact Bw.out (by with_reducible assumption)) | (with_reducible refine bw_alloc ?_ _) | (with_reducible refine bw_step ?_ (by with_reducible assumption)) | (with_reducible refine Below.alloc ?_ ?_ _) | (with_reducible refine Below.drew ?_) | (with_reducible refine below_drewN ?_ _) | (with_reducible refine Below.setCell ?_ ?_ _) | (with_reducible refine below_step ?_ (by with_reducible assumption) ?_) | (with_reducible exact Nat.le_refl _) | omega | (simp; omega) | (simp; done))))
  have HB6 : Below w.heap.size w w6 := by (repeat' (first | (with_reducible exact Below.refl _ _) | (with_reducible assumption) | (with_reducible exact Bw.out (by with_reducible assumption)) | (with_reducible refine bw_alloc ?_ _) | (with_reducible refine bw_step ?_ (by with_reducible assumption)) | (with_reducible refine Below.alloc ?_ ?_ _) | (with_reducible refine Below.drew ?_) | (with_reducible refine below_drewN ?_ _) | (with_reducible refine Below.setCell ?_ ?_ _) | (with_reducible refine below_step ?_ (by with_reducible assumption) ?_) | (with_reducible exact Nat.le_refl _) | omega | (simp; omega) | (simp; done)))
  clear R_l_5 c_l_0_5 c_l_1_5 c_l_2_5 c_l_3_5 c_l_4_5 c_l_5_5 c_l_6_5 c_l_7_5 hb5 HB5
  go_wp2_with fail
  refine (R_same_c _ _ [0, 1, 0, 1] [0, 1, 0, 1] _ (V1.step (by (repeat' (first | (with_reducible exact Below.refl _ _) | (with_reducible assumption) | (with_reducible exact Bw.out (by with_reducible assumption)) | (with_reducible refine bw_alloc ?_ _) | (with_reducible refine bw_step ?_ (by with_reducible assumption)) | (with_reducible refine Below.alloc ?_ ?_ _) | (with_reducible refine Below.drew ?_) | (with_reducible refine below_drewN ?_ _) | (with_reducible refine Below.setCell ?_ ?_ _) | (with_reducible refine below_step ?_ (by with_reducible assumption) ?_) | (with_reducible exact Nat.le_refl _) | omega | (simp; omega) | (simp; done))))) (SlV.lit (n := 4) (cs := [.int .i64 0, .int .i64 1, .int .i64 0, .int .i64 1]) (by (repeat' (first | (with_reducible assumption) | (with_reducible refine Row.new' _ _ _ (by first | rfl | (simp; done) | omega)) | (with_reducible refine Row.alloc ?_ _) | (with_reducible refine Row.drew ?_) | (with_reducible refine Row.drewN ?_ _) | (with_reducible refine Row.step ?_ (by with_reducible assumption))))) rfl rfl (by omega)) true (by decide +kernel)).mono ?_
  rintro e w7 ⟨rfl, hb7⟩
  have R_l_7 : Row w7 (w.heap.size) [.int .i64 (0), .int .i64 (3), .int .i64 (2), .int .i64 (5), .int .i64 (3), .int .i64 (6), .int .i64 (1), .int .i64 (2)] := by (repeat' (first | (with_reducible assumption) | (with_reducible refine Row.new' _ _ _ (by first | rfl | (simp; done) | omega)) | (with_reducible refine Row.alloc ?_ _) | (with_reducible refine Row.drew ?_) | (with_reducible refine Row.drewN ?_ _) | (with_reducible refine Row.step ?_ (by with_reducible assumption)) | (with_reducible refine Row.set2' ?_ _ _; first | exact ⟨_, _, by with_reducible assumption⟩ | exact ⟨_, _, Row.alloc (by with_reducible assumption) _⟩ | exact ⟨_, _, Row.alloc (Row.alloc (by with_reducible assumption) _) _⟩) | (with_reducible refine Row.other ?_ (by first | omega | (simp; done) | (simp; omega)) _)))
  have c_l_0_7 := R_l_7.cell 0 rfl
  have c_l_1_7 := R_l_7.cell 1 rfl
  have c_l_2_7 := R_l_7.cell 2 rfl
  have c_l_3_7 := R_l_7.cell 3 rfl
  have c_l_4_7 := R_l_7.cell 4 rfl
  have c_l_5_7 := R_l_7.cell 5 rfl
  have c_l_6_7 := R_l_7.cell 6 rfl
  have c_l_7_7 := R_l_7.cell 7 rfl
  have l_l_7 := R_l_7.lt
  replace V1 := V1.step (show Below w6.heap.size w6 w7 by (repeat' (first | (with_reducible exact Below.refl _ _) | (with_reducible assumption) | (with_reducible exact Bw.out (by with_reducible assumption)) | (with_reducible refine bw_alloc ?_ _) | (with_reducible refine bw_step ?_ (by with_reducible assumption)) | (with_reducible refine Below.alloc ?_ ?_ _) | (with_reducible refine Below.drew ?_) | (with_reducible refine below_drewN ?_ _) | (with_reducible refine Below.setCell ?_ ?_ _) | (with_reducible refine below_step ?_ (by with_reducible assumption) ?_) | (with_reducible exact Nat.le_refl _) | omega | (simp; omega) | (simp; done))))
  replace V2 := V2.step (show Below w6.heap.size w6 w7 by (repeat' (first | (with_reducible exact Below.refl _ _) | (with_reducible assumption) | (with_reducible exact Bw.out (by with_reducible assumption)) | (with_reducible refine bw_alloc ?_ _) | (with_reducible refine bw_step ?_ (by with_reducible assumption)) | (with_reducible refine Below.alloc ?_ ?_ _) | (with_reducible refine Below.drew ?_) | (with_reducible refine below_drewN ?_ _) | (with_reducible refine Below.setCell ?_ ?_ _) | (with_reducible refine below_step ?_ (by with_reducible assumption) ?_) | (with_reducible exact Nat.le_refl _) | omega | (simp; omega) | (simp; done))))
  replace V3 := V3.step (show Below w6.heap.size w6 w7 by (repeat' (first | (with_reducible exact Below.refl _ _) | (with_reducible assumption) | (with_reducible exact Bw.out (by with_reducible assumption)) | (with_reducible refine bw_alloc ?_ _) | (with_reducible refine bw_step ?_ (by with_reducible assumption)) | (with_reducible refine Below.alloc ?_ ?_ _) | (with_reducible refine Below.drew ?_) | (with_reducible refine below_drewN ?_ _) | (with_reducible refine Below.setCell ?_ ?_ _) | (with_reducible refine below_step ?_ (by with_reducible assumption) ?_) | (with_reducible exact Nat.le_refl _) | omega | (simp; omega) | (simp; done))))
  replace V4 := V4.step (show Below w6.heap.size w6 w7 by (repeat' (first | (with_reducible exact Below.refl _ _) | (with_reducible assumption) | (with_reducible exact Bw.out (by with_reducible assumption)) | (with_reducible refine bw_alloc ?_ _) | (with_reducible refine bw_step ?_ (by with_reducible assumption)) | (with_reducible refine Below.alloc ?_ ?_ _) | (with_reducible refine Below.drew ?_) | (with_reducible refine below_drewN ?_ _) | (with_reducible refine Below.setCell ?_ ?_ _) | (with_reducible refine below_step ?_ (by with_reducible assumption) ?_) | (with_reducible exact Nat.le_refl _) | omega | (simp; omega) | (simp; done))))
  have HB7 : Below w.heap.size w w7 := by (repeat' (first | (with_reducible exact Below.refl _ _) | (with_reducible assumption) | (with_reducible exact Bw.out (by with_reducible assumption)) | (with_reducible refine bw_alloc ?_ _) | (with_reducible refine bw_step ?_ (by with_reducible assumption)) | (with_reducible refine Below.alloc ?_ ?_ _) | (with_reducible refine Below.drew ?_) | (with_reducible refine below_drewN ?_ _) | (with_reducible refine Below.setCell ?_ ?_ _) | (with_reducible refine below_step ?_ (by with_reducible assumption) ?_) | (with_reducible exact Nat.le_refl _) | omega | (simp; omega) | (simp; done)))
  clear R_l_6 c_l_0_6 c_l_1_6 c_l_2_6 c_l_3_6 c_l_4_6 c_l_5_6 c_l_6_6 c_l_7_6 hb6 HB6
  go_wp2_with fail
  refine (R_same_c _ _ [0, 3] [0, 3] _ (V2.step (by (repeat' (first | (with_reducible exact Below.refl _ _) | (with_reducible assumption) | (with_reducible exact Bw.out (by with_reducible assumption)) | (with_reducible refine bw_alloc ?_ _) | (with_reducible refine bw_step ?_ (by with_reducible assumption)) | (with_reducible refine Below.alloc ?_ ?_ _) | (with_reducible refine Below.drew ?_) | (with_reducible refine below_drewN ?_ _) | (with_reducible refine Below.setCell ?_ ?_ _) | (with_reducible refine below_step ?_ (by with_reducible assumption) ?_) | (with_reducible exact Nat.le_refl _) | omega | (simp; omega) | (simp; done))))) (SlV.lit (n := 2) (cs := [.int .i64 0, .int .i64 3]) (by (repeat' (first | (with_reducible assumption) | (with_reducible refine Row.new' _ _ _ (by first | rfl | (simp; done) | omega)) | (with_reducible refine Row.alloc ?_ _) | (with_reducible refine Row.drew ?_) | (with_reducible refine Row.drewN ?_ _) | (with_reducible refine Row.step ?_ (by with_reducible assumption))))) rfl rfl (by omega)) true (by decide +kernel)).mono ?_
  rintro e w8 ⟨rfl, hb8⟩
  have R_l_8 : Row w8 (w.heap.size) [.int .i64 (0), .int .i64 (3), .int .i64 (2), .int .i64 (5), .int .i64 (3), .int .i64 (6), .int .i64 (1), .int .i64 (2)] := by (repeat' (first | (with_reducible assumption) | (with_reducible refine Row.new' _ _ _ (by first | rfl | (simp; done) | omega)) | (with_reducible refine Row.alloc ?_ _) | (with_reducible refine Row.drew ?_) | (with_reducible refine Row.drewN ?_ _) | (with_reducible refine Row.step ?_ (by with_reducible assumption)) | (with_reducible refine Row.set2' ?_ _ _; first | exact ⟨_, _, by with_reducible assumption⟩ | exact ⟨_, _, Row.alloc (by with_reducible assumption) _⟩ | exact ⟨_, _, Row.alloc (Row.alloc (by with_reducible assumption) _) _⟩) | (with_reducible refine Row.other ?_ (by first | omega | (simp; done) | (simp; omega)) _)))
  have c_l_0_8 := R_l_8.cell 0 rfl
  have c_l_1_8 := R_l_8.cell 1 rfl
  have c_l_2_8 := R_l_8.cell 2 rfl
  have c_l_3_8 := R_l_8.cell 3 rfl
  have c_l_4_8 := R_l_8.cell 4 rfl
  have c_l_5_8 := R_l_8.cell 5 rfl
  have c_l_6_8 := R_l_8.cell 6 rfl
  have c_l_7_8 := R_l_8.cell 7 rfl
  have l_l_8 := R_l_8.lt
  replace V1 := V1.step (show Below w7.heap.size w7 w8 by (repeat' (first | (with_reducible exact Below.refl _ _) | (with_reducible assumption) | (with_reducible exact Bw.out (by with_reducible assumption)) | (with_reducible refine bw_alloc ?_ _) | (with_reducible refine bw_step ?_ (by with_reducible assumption)) | (with_reducible refine Below.alloc ?_ ?_ _) | (with_reducible refine Below.drew ?_) | (with_reducible refine below_drewN ?_ _) | (with_reducible refine Below.setCell ?_ ?_ _) | (with_reducible refine below_step ?_ (by with_reducible assumption) ?_) | (with_reducible exact Nat.le_refl _) | omega | (simp; omega) | (simp; done))))
  replace V2 := V2.step (show Below w7.heap.size w7 w8 by (repeat' (first | (with_reducible exact Below.refl _ _) | (with_reducible assumption) | (with_reducible exact Bw.out (by with_reducible assumption)) | (with_reducible refine bw_alloc ?_ _) | (with_reducible refine bw_step ?_ (by with_reducible assumption)) | (with_reducible refine Below.alloc ?_ ?_ _) | (with_reducible refine Below.drew ?_) | (with_reducible refine below_drewN ?_ _) | (with_reducible refine Below.setCell ?_ ?_ _) | (with_reducible refine below_step ?_ (by with_reducible assumption) ?_) | (with_reducible exact Nat.le_refl _) | omega | (simp; omega) | (simp; done))))
  replace V3 := V3.step (show Below w7.heap.size w7 w8 by (repeat' (first | (with_reducible exact Below.refl _ _) | (with_reducible assumption) | (with_reducible exact Bw.out (by with_reducible assumption)) | (with_reducible refine bw_alloc ?_ _) | (with_reducible refine bw_step ?_ (by with_reducible assumption)) | (with_reducible refine Below.alloc ?_ ?_ _) | (with_reducible refine Below.drew ?_) | (with_reducible refine below_drewN ?_ _) | (with_reducible refine Below.setCell ?_ ?_ _) | (with_reducible refine below_step ?_ (by with_reducible assumption) ?_) | (with_reducible exact Nat.le_refl _) | omega | (simp; omega) | (simp; done))))
  replace V4 := V4.step (show Below w7.heap.size w7 w8 by (repeat' (first | (with_reducible exact Below.refl _ _) | (with_reducible assumption) | (with_reducible exact Bw.out (by with_reducible assumption)) | (with_reducible refine bw_alloc ?_ _) | (with_reducible refine bw_step ?_ (by with_reducible assumption)) | (with_reducible refine Below.alloc ?_ ?_ _) | (with_reducible refine Below.drew ?_) | (with_reducible refine below_drewN ?_ _) | (with_reducible refine Below.setCell ?_ ?_ _) | (with_reducible refine below_step ?_ (by with_reducible assumption) ?_) | (with_reducible exact Nat.le_refl _) | omega | (simp; omega) | (simp; done))))
  have HB8 : Below w.heap.size w w8 := by (repeat' (first | (with_reducible exact Below.refl _ _) | (with_reducible assumption) | (with_reducible exact Bw.out (by with_reducible assumption)) | (with_reducible refine bw_alloc ?_ _) | (with_reducible refine bw_step ?_ (by with_reducible assumption)) | (with_reducible refine Below.alloc ?_ ?_ _) | (with_reducible refine Below.drew ?_) | (with_reducible refine below_drewN ?_ _) | (with_reducible refine Below.setCell ?_ ?_ _) | (with_reducible refine below_step ?_ (by with_reducible assumption) ?_) | (with_reducible exact Nat.le_refl _) | omega | (simp; omega) | (simp; done)))
  clear R_l_7 c_l_0_7 c_l_1_7 c_l_2_7 c_l_3_7 c_l_4_7 c_l_5_7 c_l_6_7 c_l_7_7 hb7 HB7
  go_wp2_with fail
  refine (R_same_c _ _ [0, 1, 0, 1] [0, 1, 0, 1] _ V3 V1 true (by decide +kernel)).mono ?_
  rintro e w9 ⟨rfl, hb9⟩
  have R_l_9 : Row w9 (w.heap.size) [.int .i64 (0), .int .i64 (3), .int .i64 (2), .int .i64 (5), .int .i64 (3), .int .i64 (6), .int .i64 (1), .int .i64 (2)] := by (repeat' (first | (with_reducible assumption) | (with_reducible refine Row.new' _ _ _ (by first | rfl | (simp; done) | omega)) | (with_reducible refine Row.alloc ?_ _) | (with_reducible refine Row.drew ?_) | (with_reducible refine Row.drewN ?_ _) | (with_reducible refine Row.step ?_ (by with_reducible assumption)) | (with_reducible refine Row.set2' ?_ _ _; first | exact ⟨_, _, by with_reducible assumption⟩ | exact ⟨_, _, Row.alloc (by with_reducible assumption) _⟩ | exact ⟨_, _, Row.alloc (Row.alloc (by with_reducible assumption) _) _⟩) | (with_reducible refine Row.other ?_ (by first | omega | (simp; done) | (simp; omega)) _)))
  have c_l_0_9 := R_l_9.cell 0 rfl
  have c_l_1_9 := R_l_9.cell 1 rfl
  have c_l_2_9 := R_l_9.cell 2 rfl
  have c_l_3_9 := R_l_9.cell 3 rfl
  have c_l_4_9 := R_l_9.cell 4 rfl
  have c_l_5_9 := R_l_9.cell 5 rfl
  have c_l_6_9 := R_l_9.cell 6 rfl
  have c_l_7_9 := R_l_9.cell 7 rfl
  have l_l_9 := R_l_9.lt
  replace V1 := V1.step (show Below w8.heap.size w8 w9 by (repeat' (first | (with_reducible exact Below.refl _ _) | (with_reducible assumption) | (with_reducible exact Bw.out (by with_reducible assumption)) | (with_reducible refine bw_alloc ?_ _) | (with_reducible refine bw_step ?_ (by with_reducible assumption)) | (with_reducible refine Below.alloc ?_ ?_ _) | (with_reducible refine Below.drew ?_) | (with_reducible refine below_drewN ?_ _) | (with_reducible refine Below.setCell ?_ ?_ _) | (with_reducible refine below_step ?_ (by with_reducible assumption) ?_) | (with_reducible exact Nat.le_refl _) | omega | (simp; omega) | (simp; done))))
  replace V2 := V2.step (show Below w8.heap.size w8 w9 by (repeat' (first | (with_reducible exact Below.refl _ _) | (with_reducible assumption) | (with_reducible exact Bw.out (by with_reducible assumption)) | (with_reducible refine bw_alloc ?_ _) | (with_reducible refine bw_step ?_ (by with_reducible assumption)) | (with_reducible refine Below.alloc ?_ ?_ _) | (with_reducible refine Below.drew ?_) | (with_reducible refine below_drewN ?_ _) | (with_reducible refine Below.setCell ?_ ?_ _) | (with_reducible refine below_step ?_ (by with_reducible assumption) ?_) | (with_reducible exact Nat.le_refl _) | omega | (simp; omega) | (simp; done))))
  replace V3 := V3.step (show Below w8.heap.size w8 w9 by (repeat' (first | (with_reducible exact Below.refl _ _) | (with_reducible assumption) | (with_reducible exact Bw.out (by with_reducible assumption)) | (with_reducible refine bw_alloc ?_ _) | (with_reducible refine bw_step ?_ (by with_reducible assumption)) | (with_reducible refine Below.alloc ?_ ?_ _) | (with_reducible refine Below.drew ?_) | (with_reducible refine below_drewN ?_ _) | (with_reducible refine Below.setCell ?_ ?_ _) | (with_reducible refine below_step ?_ (by with_reducible assumption) ?_) | (with_reducible exact Nat.le_refl _) | omega | (simp; omega) | (simp; done))))
  replace V4 := V4.step (show Below w8.heap.size w8 w9 by (repeat' (first | (with_reducible exact Below.refl _ _) | (with_reducible assumption) | (with_reducible exact Bw.out (by with_reducible assumption)) | (with_reducible refine bw_alloc ?_ _) | (with_reducible refine bw_step ?_ (by with_reducible assumption)) | (with_reducible refine Below.alloc ?_ ?_ _) | (with_reducible refine Below.drew ?_) | (with_reducible refine below_drewN ?_ _) | (with_reducible refine Below.setCell ?_ ?_ _) | (with_reducible refine below_step ?_ (by with_reducible assumption) ?_) | (with_reducible exact Nat.le_refl _) | omega | (simp; omega) | (simp; done))))
  have HB9 : Below w.heap.size w w9 := by (repeat' (first | (with_reducible exact Below.refl _ _) | (with_reducible assumption) | (with_reducible exact Bw.out (by with_reducible assumption)) | (with_reducible refine bw_alloc ?_ _) | (with_reducible refine bw_step ?_ (by with_reducible assumption)) | (with_reducible refine Below.alloc ?_ ?_ _) | (with_reducible refine Below.drew ?_) | (with_reducible refine below_drewN ?_ _) | (with_reducible refine Below.setCell ?_ ?_ _) | (with_reducible refine below_step ?_ (by with_reducible assumption) ?_) | (with_reducible exact Nat.le_refl _) | omega | (simp; omega) | (simp; done)))
  clear R_l_8 c_l_0_8 c_l_1_8 c_l_2_8 c_l_3_8 c_l_4_8 c_l_5_8 c_l_6_8 c_l_7_8 hb8 HB8
  go_wp2_with fail
  refine (R_same_c _ _ [0, 3] [0, 3] _ (V4.step (by (repeat' (first | (with_reducible exact Below.refl _ _) | (with_reducible assumption) | (with_reducible exact Bw.out (by with_reducible assumption)) | (with_reducible refine bw_alloc ?_ _) | (with_reducible refine bw_step ?_ (by with_reducible assumption)) | (with_reducible refine Below.alloc ?_ ?_ _) | (with_reducible refine Below.drew ?_) | (with_reducible refine below_drewN ?_ _) | (with_reducible refine Below.setCell ?_ ?_ _) | (with_reducible refine below_step ?_ (by with_reducible assumption) ?_) | (with_reducible exact Nat.le_refl _) | omega | (simp; omega) | (simp; done))))) (SlV.lit (n := 2) (cs := [.int .i64 0, .int .i64 3]) (by (repeat' (first | (with_reducible assumption) | (with_reducible refine Row.new' _ _ _ (by first | rfl | (simp; done) | omega)) | (with_reducible refine Row.alloc ?_ _) | (with_reducible refine Row.drew ?_) | (with_reducible refine Row.drewN ?_ _) | (with_reducible refine Row.step ?_ (by with_reducible assumption))))) rfl rfl (by omega)) true (by decide +kernel)).mono ?_
  rintro e w10 ⟨rfl, hb10⟩
  have R_l_10 : Row w10 (w.heap.size) [.int .i64 (0), .int .i64 (3), .int .i64 (2), .int .i64 (5), .int .i64 (3), .int .i64 (6), .int .i64 (1), .int .i64 (2)] := by (repeat' (first | (with_reducible assumption) | (with_reducible refine Row.new' _ _ _ (by first | rfl | (simp; done) | omega)) | (with_reducible refine Row.alloc ?_ _) | (with_reducible refine Row.drew ?_) | (with_reducible refine Row.drewN ?_ _) | (with_reducible refine Row.step ?_ (by with_reducible assumption)) | (with_reducible refine Row.set2' ?_ _ _; first | exact ⟨_, _, by with_reducible assumption⟩ | exact ⟨_, _, Row.alloc (by with_reducible assumption) _⟩ | exact ⟨_, _, Row.alloc (Row.alloc (by with_reducible assumption) _) _⟩) | (with_reducible refine Row.other ?_ (by first | omega | (simp; done) | (simp; omega)) _)))
  have c_l_0_10 := R_l_10.cell 0 rfl
  have c_l_1_10 := R_l_10.cell 1 rfl
  have c_l_2_10 := R_l_10.cell 2 rfl
  have c_l_3_10 := R_l_10.cell 3 rfl
  have c_l_4_10 := R_l_10.cell 4 rfl
  have c_l_5_10 := R_l_10.cell 5 rfl
  have c_l_6_10 := R_l_10.cell 6 rfl
  have c_l_7_10 := R_l_10.cell 7 rfl
  have l_l_10 := R_l_10.lt
  replace V1 := V1.step (show Below w9.heap.size w9 w10 by (repeat' (first | (with_reducible exact Below.refl _ _) | (with_reducible assumption) | (with_reducible exact Bw.out (by with_reducible assumption)) | (with_reducible refine bw_alloc ?_ _) | (with_reducible refine bw_step ?_ (by with_reducible assumption)) | (with_reducible refine Below.alloc ?_ ?_ _) | (with_reducible refine Below.drew ?_) | (with_reducible refine below_drewN ?_ _) | (with_reducible refine Below.setCell ?_ ?_ _) | (with_reducible refine below_step ?_ (by with_reducible assumption) ?_) | (with_reducible exact Nat.le_refl _) | omega | (simp; omega) | (simp; done))))
  replace V2 := V2.step (show Below w9.heap.size w9 w10 by (repeat' (first | (with_reducible exact Below.refl _ _) | (with_reducible assumption) | (with_reducible exact Bw.out (by with_reducible assumption)) | (with_reducible refine bw_alloc ?_ _) | (with_reducible refine bw_step ?_ (by with_reducible assumption)) | (with_reducible refine Below.alloc ?_ ?_ _) | (with_reducible refine Below.drew ?_) | (with_reducible refine below_drewN ?_ _) | (with_reducible refine Below.setCell ?_ ?_ _) | (with_reducible refine below_step ?_ (by with_reducible assumption) ?_) | (with_reducible exact Nat.le_refl _) | omega | (simp; omega) | (simp; done))))
  replace V3 := V3.step (show Below w9.heap.size w9 w10 by (repeat' (first | (with_reducible exact Below.refl _ _) | (with_reducible assumption) | (with_reducible exact Bw.out (by with_reducible assumption)) | (with_reducible refine bw_alloc ?_ _) | (with_reducible refine bw_step ?_ (by with_reducible assumption)) | (with_reducible refine Below.alloc ?_ ?_ _) | (with_reducible refine Below.drew ?_) | (with_reducible refine below_drewN ?_ _) | (with_reducible refine Below.setCell ?_ ?_ _) | (with_reducible refine below_step ?_ (by with_reducible assumption) ?_) | (with_reducible exact Nat.le_refl _) | omega | (simp; omega) | (simp; done))))
  replace V4 := V4.step (show Below w9.heap.size w9 w10 by (repeat' (first | (with_reducible exact Below.refl _ _) | (with_reducible assumption) | (with_reducible exact Bw.out (by with_reducible assumption)) | (with_reducible refine bw_alloc ?_ _) | (with_reducible refine bw_step ?_ (by with_reducible assumption)) | (with_reducible refine Below.alloc ?_ ?_ _) | (with_reducible refine Below.drew ?_) | (with_reducible refine below_drewN ?_ _) | (with_reducible refine Below.setCell ?_ ?_ _) | (with_reducible refine below_step ?_ (by with_reducible assumption) ?_) | (with_reducible exact Nat.le_refl _) | omega | (simp; omega) | (simp; done))))
  have HB10 : Below w.heap.size w w10 := by (repeat' (first | (with_reducible exact Below.refl _ _) | (with_reducible assumption) | (with_reducible exact Bw.out (by with_reducible assumption)) | (with_reducible refine bw_alloc ?_ _) | (with_reducible refine bw_step ?_ (by with_reducible assumption)) | (with_reducible refine Below.alloc ?_ ?_ _) | (with_reducible refine Below.drew ?_) | (with_reducible refine below_drewN ?_ _) | (with_reducible refine Below.setCell ?_ ?_ _) | (with_reducible refine below_step ?_ (by with_reducible assumption) ?_) | (with_reducible exact Nat.le_refl _) | omega | (simp; omega) | (simp; done)))
  clear R_l_9 c_l_0_9 c_l_1_9 c_l_2_9 c_l_3_9 c_l_4_9 c_l_5_9 c_l_6_9 c_l_7_9 hb9 HB9
  go_wp2_with fail
  go_ret
  refine ⟨(by first | rfl | exact ret_bool (by first | rfl | (simp; done) | (simp; omega))), ?_⟩
  (repeat' (first | (with_reducible exact Below.refl _ _) | (with_reducible assumption) | (with_reducible exact Bw.out (by with_reducible assumption)) | (with_reducible refine bw_alloc ?_ _) | (with_reducible refine bw_step ?_ (by with_reducible assumption)) | (with_reducible refine Below.alloc ?_ ?_ _) | (with_reducible refine Below.drew ?_) | (with_reducible refine below_drewN ?_ _) | (with_reducible refine Below.setCell ?_ ?_ _) | (with_reducible refine below_step ?_ (by with_reducible assumption) ?_) | (with_reducible exact Nat.le_refl _) | omega | (simp; omega) | (simp; done)))

end Go.Proofs.Ytbafhmlmibjgpaa
