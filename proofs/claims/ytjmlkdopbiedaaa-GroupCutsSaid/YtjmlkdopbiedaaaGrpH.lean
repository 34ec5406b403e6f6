/-
  The walk of the example at the head of every statement on groups: it returns true.
-/
import Derived.Test.YtjmlkdopbiedaaaGrpQ
import Derived.Test.YtjmlkdopbiedaaaGrpS
import Derived.Test.YtjmlkdopbiedaaaGrpT
namespace Go.Proofs.Ytjmlkdopbiedaaa
set_option linter.unusedSimpArgs false
set_option linter.unusedVariables false
open Go.RowKit

abbrev exB : Blk := ⟨1, 1, 10, 5, 7, [(1, 1, 2), (3, 1, 4)], 3, 4, 100, [3, 0]⟩
abbrev noB : Blk := ⟨0, 0, 0, 0, 0, [], 0, 0, 0, []⟩
abbrev exB1 : Blk := ⟨1, 1, 10, 5, 7, [(1, 1, 2), (3, 1, 4)], 3, 4, 100, [3, 1]⟩
theorem BlkIn.step {w w1 : World} {B : Blk} {ca : Option Addr} {cn cc : Nat} {pa : Option Addr} {pm pc : Nat} (h : BlkIn w B ca cn cc pa pm pc) (hb : Below w.heap.size w w1) : BlkIn w1 B ca cn cc pa pm pc := h.below hb
/-- The example's two slices. -/
theorem ex_in {w : World} {C P : Nat} (hc : Row w C [.int .i64 1, .int .i64 1, .int .i64 2, .int .i64 3, .int .i64 1, .int .i64 4]) (hp : Row w P [.int .i64 3, .int .i64 0]) : BlkIn w exB (some ⟨C, 0, none⟩) 2 2 (some ⟨P, 0, none⟩) 2 2 :=
  ⟨⟨rfl, fun i x hx => by
    match i, hx with
    | 0, hx => cases hx; exact ⟨C, 0, rfl, hc.cell 0 rfl, hc.cell 1 rfl, hc.cell 2 rfl⟩
    | 1, hx => cases hx; exact ⟨C, 0, rfl, hc.cell 3 rfl, hc.cell 4 rfl, hc.cell 5 rfl⟩
    | i + 2, hx => simp at hx⟩, SlI.row (rest := []) (zs := [3, 0]) hp rfl, by omega, by omega⟩
theorem no_in (w : World) : BlkIn w noB none 0 0 none 0 0 := ⟨Sl3.nil _ _, SlI.nil _ _, by omega, by omega⟩

theorem example_any (w : World) :
    Calls Try.prog 23 #[] w fun e w' => ∃ C P : Nat, e = .returned (.agg #[.int .i64 1, .int .i64 1, .int .i64 10, .int .i64 5, .int .i64 7, .slice (some ⟨C, 0, none⟩) 2 2, .int .i64 3, .int .i64 4, .int .i64 100, .slice (some ⟨P, 0, none⟩) 2 2]) ∧ BlkIn w' exB (some ⟨C, 0, none⟩) 2 2 (some ⟨P, 0, none⟩) 2 2 ∧ Below w.heap.size w w' := by
  go_enter Try.func23, Try.ntmps23
  go_wp2_with fail
  refine bodyPost_ret (v := .agg #[.int .i64 1, .int .i64 1, .int .i64 10, .int .i64 5, .int .i64 7, .slice (some ⟨w.heap.size + 1, 0, none⟩) 2 2, .int .i64 3, .int .i64 4, .int .i64 100, .slice (some ⟨w.heap.size + 1 + 1, 0, none⟩) 2 2]) (by simp [results, Try.results23, go_sem]) rfl ⟨_, _, rfl, ex_in (by (repeat' (first | (with_reducible assumption) | (with_reducible refine Row.new' _ _ _ (by first | rfl | (simp; done) | omega)) | (with_reducible refine Row.alloc ?_ _) | (with_reducible refine Row.drew ?_) | (with_reducible refine Row.drewN ?_ _) | (with_reducible refine Row.step ?_ (by with_reducible assumption)) | (with_reducible refine Row.set2' ?_ _ _; first | exact ⟨_, _, by with_reducible assumption⟩ | exact ⟨_, _, Row.alloc (by with_reducible assumption) _⟩ | exact ⟨_, _, Row.alloc (Row.alloc (by with_reducible assumption) _) _⟩) | (with_reducible refine Row.other ?_ (by first | omega | (simp; done) | (simp; omega)) _)))) (by (repeat' (first | (with_reducible assumption) | (with_reducible refine Row.new' _ _ _ (by first | rfl | (simp; done) | omega)) | (with_reducible refine Row.alloc ?_ _) | (with_reducible refine Row.drew ?_) | (with_reducible refine Row.drewN ?_ _) | (with_reducible refine Row.step ?_ (by with_reducible assumption)) | (with_reducible refine Row.set2' ?_ _ _; first | exact ⟨_, _, by with_reducible assumption⟩ | exact ⟨_, _, Row.alloc (by with_reducible assumption) _⟩ | exact ⟨_, _, Row.alloc (Row.alloc (by with_reducible assumption) _) _⟩) | (with_reducible refine Row.other ?_ (by first | omega | (simp; done) | (simp; omega)) _)))), by (repeat' (first | (with_reducible exact Below.refl _ _) | (with_reducible assumption) | (with_reducible exact Bw.out (by with_reducible assumption)) | (with_reducible refine bw_alloc ?_ _) | (with_reducible refine bw_step ?_ (by with_reducible assumption)) | (with_reducible refine Below.alloc ?_ ?_ _) | (with_reducible refine Below.drew ?_) | (with_reducible refine below_drewN ?_ _) | (with_reducible refine Below.setCell ?_ ?_ _) | (with_reducible refine below_step ?_ (by with_reducible assumption) ?_) | (with_reducible exact Nat.le_refl _) | omega | (simp; omega) | (simp; done)))⟩

theorem ex_Held (day n V E : Int) (C P : Nat) (w : World) (h : BlkIn w exB (some ⟨C, 0, none⟩) 2 2 (some ⟨P, 0, none⟩) 2 2) (hV : heV exB day n = V) (hE : heE exB day n = E) :
    Calls Try.prog 11 #[.agg #[.int .i64 1, .int .i64 1, .int .i64 10, .int .i64 5, .int .i64 7, .slice (some ⟨C, 0, none⟩) 2 2, .int .i64 3, .int .i64 4, .int .i64 100, .slice (some ⟨P, 0, none⟩) 2 2], .int .i64 day, .int .i64 n] w fun e w' => e = .returned (.tuple #[.int .i64 V, .int .i64 E]) ∧ Below w.heap.size w w' :=
  g_Held_any exB day n _ 2 2 _ 2 2 w h V E hV hE
theorem ex_Fee (C P : Nat) (w : World) (h : BlkIn w exB (some ⟨C, 0, none⟩) 2 2 (some ⟨P, 0, none⟩) 2 2) :
    Calls Try.prog 18 #[.agg #[.int .i64 1, .int .i64 1, .int .i64 10, .int .i64 5, .int .i64 7, .slice (some ⟨C, 0, none⟩) 2 2, .int .i64 3, .int .i64 4, .int .i64 100, .slice (some ⟨P, 0, none⟩) 2 2]] w fun e w' => e = .returned (.tuple #[.int .i64 1200, .int .i64 0]) ∧ Below w.heap.size w w' :=
  g_Fee_any exB _ 2 2 _ 2 2 w h 1200 0 (by decide +kernel) (by decide +kernel)
theorem no_Fee (w : World) :
    Calls Try.prog 18 #[.agg #[.int .i64 0, .int .i64 0, .int .i64 0, .int .i64 0, .int .i64 0, .slice none 0 0, .int .i64 0, .int .i64 0, .int .i64 0, .slice none 0 0]] w fun e w' => e = .returned (.tuple #[.int .i64 0, .int .i64 1]) ∧ Below w.heap.size w w' :=
  g_Fee_any noB none 0 0 none 0 0 w (no_in w) 0 1 (by decide +kernel) (by decide +kernel)
theorem ex_Pick1 (C P : Nat) (w : World) (h : BlkIn w exB (some ⟨C, 0, none⟩) 2 2 (some ⟨P, 0, none⟩) 2 2) :
    Calls Try.prog 15 #[.agg #[.int .i64 1, .int .i64 1, .int .i64 10, .int .i64 5, .int .i64 7, .slice (some ⟨C, 0, none⟩) 2 2, .int .i64 3, .int .i64 4, .int .i64 100, .slice (some ⟨P, 0, none⟩) 2 2], .int .i64 3, .agg #[.int .i64 6, .int .i64 7]] w fun e w' => ∃ g : Nat, e = .returned (.tuple #[.agg #[.int .i64 1, .int .i64 1, .int .i64 10, .int .i64 5, .int .i64 7, .slice (some ⟨C, 0, none⟩) 2 2, .int .i64 3, .int .i64 4, .int .i64 100, .slice (some ⟨g, 0, none⟩) 2 2], .int .i64 0]) ∧ SlC w' (some ⟨g, 0, none⟩) 2 2 [3, 1] ∧ Below w.heap.size w w' := by
  refine (g_Pick_in exB 3 6 7 2 _ 2 2 _ 2 2 w h (by decide +kernel) (by decide +kernel) (by omega) (by decide) (by decide) (by decide +kernel)).mono ?_
  rintro e w' ⟨hb, ⟨hf, _⟩ | ⟨_, g, _, ho, rfl⟩⟩
  · exact absurd hf (by decide +kernel)
  · rw [show incR (ixA exB 6) (ixA exB 7) exB.picked = [3, 1] by decide +kernel] at ho
    exact ⟨g, rfl, ⟨rfl, _, _, rfl, ho.sl rfl, by simp, by unfold maxLen; omega⟩, hb⟩
theorem ex_Pick2 (C P : Nat) (w : World) (h : BlkIn w exB (some ⟨C, 0, none⟩) 2 2 (some ⟨P, 0, none⟩) 2 2) :
    Calls Try.prog 15 #[.agg #[.int .i64 1, .int .i64 1, .int .i64 10, .int .i64 5, .int .i64 7, .slice (some ⟨C, 0, none⟩) 2 2, .int .i64 3, .int .i64 4, .int .i64 100, .slice (some ⟨P, 0, none⟩) 2 2], .int .i64 3, .agg #[.int .i64 5, .int .i64 7]] w fun e w' => e = .returned (.tuple #[.agg #[.int .i64 0, .int .i64 0, .int .i64 0, .int .i64 0, .int .i64 0, .slice none 0 0, .int .i64 0, .int .i64 0, .int .i64 0, .slice none 0 0], .int .i64 31]) ∧ Below w.heap.size w w' := by
  refine (g_Pick_in exB 3 5 7 2 _ 2 2 _ 2 2 w h (by decide +kernel) (by decide +kernel) (by omega) (by decide) (by decide) (by decide +kernel)).mono ?_
  rintro e w' ⟨hb, ⟨_, rfl⟩ | ⟨hf, _⟩⟩
  · exact ⟨rfl, hb⟩
  · exact absurd hf (by decide +kernel)
theorem ex_Pick3 (C P : Nat) (w : World) (h : BlkIn w exB (some ⟨C, 0, none⟩) 2 2 (some ⟨P, 0, none⟩) 2 2) :
    Calls Try.prog 15 #[.agg #[.int .i64 1, .int .i64 1, .int .i64 10, .int .i64 5, .int .i64 7, .slice (some ⟨C, 0, none⟩) 2 2, .int .i64 3, .int .i64 4, .int .i64 100, .slice (some ⟨P, 0, none⟩) 2 2], .int .i64 3, .agg #[.int .i64 4, .int .i64 7]] w fun e w' => e = .returned (.tuple #[.agg #[.int .i64 0, .int .i64 0, .int .i64 0, .int .i64 0, .int .i64 0, .slice none 0 0, .int .i64 0, .int .i64 0, .int .i64 0, .slice none 0 0], .int .i64 4]) ∧ Below w.heap.size w w' :=
  g_Pick_err exB 3 4 7 _ 2 2 _ 2 2 w h 4 (by decide +kernel) (Or.inr rfl) (by decide) (by decide)
theorem ex_Valid (C P : Nat) (w : World) (h : BlkIn w exB (some ⟨C, 0, none⟩) 2 2 (some ⟨P, 0, none⟩) 2 2) :
    Calls Try.prog 13 #[.agg #[.int .i64 1, .int .i64 1, .int .i64 10, .int .i64 5, .int .i64 7, .slice (some ⟨C, 0, none⟩) 2 2, .int .i64 3, .int .i64 4, .int .i64 100, .slice (some ⟨P, 0, none⟩) 2 2]] w fun e w' => e = .returned (.bool true) ∧ Below w.heap.size w w' :=
  g_valid_any exB _ 2 2 _ 2 2 w h true (by decide +kernel)

set_option maxRecDepth 100000 in
set_option maxHeartbeats 3200000 in
theorem head_any (w : World) : Calls Try.prog 9 #[] w fun e w' => e = .returned (.bool true) ∧ Below w.heap.size w w' := by
  go_enter Try.func9, Try.ntmps9
  go_wp2_with fail
  refine (example_any _).mono ?_
  rintro e w1 ⟨C, P, rfl, K, hb1⟩
  have HB1 : Below w.heap.size w w1 := by (repeat' (first | (with_reducible exact Below.refl _ _) | (with_reducible assumption) | (with_reducible exact Bw.out (by with_reducible assumption)) | (with_reducible refine bw_alloc ?_ _) | (with_reducible refine bw_step ?_ (by with_reducible assumption)) | (with_reducible refine Below.alloc ?_ ?_ _) | (with_reducible refine Below.drew ?_) | (with_reducible refine below_drewN ?_ _) | (with_reducible refine Below.setCell ?_ ?_ _) | (with_reducible refine below_step ?_ (by with_reducible assumption) ?_) | (with_reducible exact Nat.le_refl _) | omega | (simp; omega) | (simp; done)))
  go_wp2_with fail
  refine (ex_Held 0 6 10 0 C P _ (K.step (by (repeat' (first | (with_reducible exact Below.refl _ _) | (with_reducible assumption) | (with_reducible exact Bw.out (by with_reducible assumption)) | (with_reducible refine bw_alloc ?_ _) | (with_reducible refine bw_step ?_ (by with_reducible assumption)) | (with_reducible refine Below.alloc ?_ ?_ _) | (with_reducible refine Below.drew ?_) | (with_reducible refine below_drewN ?_ _) | (with_reducible refine Below.setCell ?_ ?_ _) | (with_reducible refine below_step ?_ (by with_reducible assumption) ?_) | (with_reducible exact Nat.le_refl _) | omega | (simp; omega) | (simp; done))))) (by decide +kernel) (by decide +kernel)).mono ?_
  rintro e w2 ⟨rfl, hb2⟩
  have R_b_2 : Row w2 (w1.heap.size) [.int .i64 1, .int .i64 1, .int .i64 10, .int .i64 5, .int .i64 7, .slice (some ⟨C, 0, none⟩) 2 2, .int .i64 3, .int .i64 4, .int .i64 100, .slice (some ⟨P, 0, none⟩) 2 2] := by (repeat' (first | (with_reducible assumption) | (with_reducible refine Row.new' _ _ _ (by first | rfl | (simp; done) | omega)) | (with_reducible refine Row.alloc ?_ _) | (with_reducible refine Row.drew ?_) | (with_reducible refine Row.drewN ?_ _) | (with_reducible refine Row.step ?_ (by with_reducible assumption)) | (with_reducible refine Row.set2' ?_ _ _; first | exact ⟨_, _, by with_reducible assumption⟩ | exact ⟨_, _, Row.alloc (by with_reducible assumption) _⟩ | exact ⟨_, _, Row.alloc (Row.alloc (by with_reducible assumption) _) _⟩) | (with_reducible refine Row.other ?_ (by first | omega | (simp; done) | (simp; omega)) _)))
  have c_b_0_2 := R_b_2.cell 0 rfl
  have c_b_1_2 := R_b_2.cell 1 rfl
  have c_b_2_2 := R_b_2.cell 2 rfl
  have c_b_3_2 := R_b_2.cell 3 rfl
  have c_b_4_2 := R_b_2.cell 4 rfl
  have c_b_5_2 := R_b_2.cell 5 rfl
  have c_b_6_2 := R_b_2.cell 6 rfl
  have c_b_7_2 := R_b_2.cell 7 rfl
  have c_b_8_2 := R_b_2.cell 8 rfl
  have c_b_9_2 := R_b_2.cell 9 rfl
  have l_b_2 := R_b_2.lt
  replace K := K.step (show Below w1.heap.size w1 w2 by (repeat' (first | (with_reducible exact Below.refl _ _) | (with_reducible assumption) | (with_reducible exact Bw.out (by with_reducible assumption)) | (with_reducible refine bw_alloc ?_ _) | (with_reducible refine bw_step ?_ (by with_reducible assumption)) | (with_reducible refine Below.alloc ?_ ?_ _) | (with_reducible refine Below.drew ?_) | (with_reducible refine below_drewN ?_ _) | (with_reducible refine Below.setCell ?_ ?_ _) | (with_reducible refine below_step ?_ (by with_reducible assumption) ?_) | (with_reducible exact Nat.le_refl _) | omega | (simp; omega) | (simp; done))))
  have HB2 : Below w.heap.size w w2 := by (repeat' (first | (with_reducible exact Below.refl _ _) | (with_reducible assumption) | (with_reducible exact Bw.out (by with_reducible assumption)) | (with_reducible refine bw_alloc ?_ _) | (with_reducible refine bw_step ?_ (by with_reducible assumption)) | (with_reducible refine Below.alloc ?_ ?_ _) | (with_reducible refine Below.drew ?_) | (with_reducible refine below_drewN ?_ _) | (with_reducible refine Below.setCell ?_ ?_ _) | (with_reducible refine below_step ?_ (by with_reducible assumption) ?_) | (with_reducible exact Nat.le_refl _) | omega | (simp; omega) | (simp; done)))
  clear hb1 HB1
  go_wp2_with fail
  refine (ex_Held 2 6 5 0 C P _ (K.step (by (repeat' (first | (with_reducible exact Below.refl _ _) | (with_reducible assumption) | (with_reducible exact Bw.out (by with_reducible assumption)) | (with_reducible refine bw_alloc ?_ _) | (with_reducible refine bw_step ?_ (by with_reducible assumption)) | (with_reducible refine Below.alloc ?_ ?_ _) | (with_reducible refine Below.drew ?_) | (with_reducible refine below_drewN ?_ _) | (with_reducible refine Below.setCell ?_ ?_ _) | (with_reducible refine below_step ?_ (by with_reducible assumption) ?_) | (with_reducible exact Nat.le_refl _) | omega | (simp; omega) | (simp; done))))) (by decide +kernel) (by decide +kernel)).mono ?_
  rintro e w3 ⟨rfl, hb3⟩
  have R_b_3 : Row w3 (w1.heap.size) [.int .i64 1, .int .i64 1, .int .i64 10, .int .i64 5, .int .i64 7, .slice (some ⟨C, 0, none⟩) 2 2, .int .i64 3, .int .i64 4, .int .i64 100, .slice (some ⟨P, 0, none⟩) 2 2] := by (repeat' (first | (with_reducible assumption) | (with_reducible refine Row.new' _ _ _ (by first | rfl | (simp; done) | omega)) | (with_reducible refine Row.alloc ?_ _) | (with_reducible refine Row.drew ?_) | (with_reducible refine Row.drewN ?_ _) | (with_reducible refine Row.step ?_ (by with_reducible assumption)) | (with_reducible refine Row.set2' ?_ _ _; first | exact ⟨_, _, by with_reducible assumption⟩ | exact ⟨_, _, Row.alloc (by with_reducible assumption) _⟩ | exact ⟨_, _, Row.alloc (Row.alloc (by with_reducible assumption) _) _⟩) | (with_reducible refine Row.other ?_ (by first | omega | (simp; done) | (simp; omega)) _)))
  have c_b_0_3 := R_b_3.cell 0 rfl
  have c_b_1_3 := R_b_3.cell 1 rfl
  have c_b_2_3 := R_b_3.cell 2 rfl
  have c_b_3_3 := R_b_3.cell 3 rfl
  have c_b_4_3 := R_b_3.cell 4 rfl
  have c_b_5_3 := R_b_3.cell 5 rfl
  have c_b_6_3 := R_b_3.cell 6 rfl
  have c_b_7_3 := R_b_3.cell 7 rfl
  have c_b_8_3 := R_b_3.cell 8 rfl
  have c_b_9_3 := R_b_3.cell 9 rfl
  have l_b_3 := R_b_3.lt
  replace K := K.step (show Below w2.heap.size w2 w3 by (repeat' (first | (with_reducible exact Below.refl _ _) | (with_reducible assumption) | (with_reducible exact Bw.out (by with_reducible assumption)) | (with_reducible refine bw_alloc ?_ _) | (with_reducible refine bw_step ?_ (by with_reducible assumption)) | (with_reducible refine Below.alloc ?_ ?_ _) | (with_reducible refine Below.drew ?_) | (with_reducible refine below_drewN ?_ _) | (with_reducible refine Below.setCell ?_ ?_ _) | (with_reducible refine below_step ?_ (by with_reducible assumption) ?_) | (with_reducible exact Nat.le_refl _) | omega | (simp; omega) | (simp; done))))
  have HB3 : Below w.heap.size w w3 := by (repeat' (first | (with_reducible exact Below.refl _ _) | (with_reducible assumption) | (with_reducible exact Bw.out (by with_reducible assumption)) | (with_reducible refine bw_alloc ?_ _) | (with_reducible refine bw_step ?_ (by with_reducible assumption)) | (with_reducible refine Below.alloc ?_ ?_ _) | (with_reducible refine Below.drew ?_) | (with_reducible refine below_drewN ?_ _) | (with_reducible refine Below.setCell ?_ ?_ _) | (with_reducible refine below_step ?_ (by with_reducible assumption) ?_) | (with_reducible exact Nat.le_refl _) | omega | (simp; omega) | (simp; done)))
  clear R_b_2 c_b_0_2 c_b_1_2 c_b_2_2 c_b_3_2 c_b_4_2 c_b_5_2 c_b_6_2 c_b_7_2 c_b_8_2 c_b_9_2 hb2 HB2
  go_wp2_with fail
  refine (ex_Held 3 6 2 0 C P _ (K.step (by (repeat' (first | (with_reducible exact Below.refl _ _) | (with_reducible assumption) | (with_reducible exact Bw.out (by with_reducible assumption)) | (with_reducible refine bw_alloc ?_ _) | (with_reducible refine bw_step ?_ (by with_reducible assumption)) | (with_reducible refine Below.alloc ?_ ?_ _) | (with_reducible refine Below.drew ?_) | (with_reducible refine below_drewN ?_ _) | (with_reducible refine Below.setCell ?_ ?_ _) | (with_reducible refine below_step ?_ (by with_reducible assumption) ?_) | (with_reducible exact Nat.le_refl _) | omega | (simp; omega) | (simp; done))))) (by decide +kernel) (by decide +kernel)).mono ?_
  rintro e w4 ⟨rfl, hb4⟩
  have R_b_4 : Row w4 (w1.heap.size) [.int .i64 1, .int .i64 1, .int .i64 10, .int .i64 5, .int .i64 7, .slice (some ⟨C, 0, none⟩) 2 2, .int .i64 3, .int .i64 4, .int .i64 100, .slice (some ⟨P, 0, none⟩) 2 2] := by (repeat' (first | (with_reducible assumption) | (with_reducible refine Row.new' _ _ _ (by first | rfl | (simp; done) | omega)) | (with_reducible refine Row.alloc ?_ _) | (with_reducible refine Row.drew ?_) | (with_reducible refine Row.drewN ?_ _) | (with_reducible refine Row.step ?_ (by with_reducible assumption)) | (with_reducible refine Row.set2' ?_ _ _; first | exact ⟨_, _, by with_reducible assumption⟩ | exact ⟨_, _, Row.alloc (by with_reducible assumption) _⟩ | exact ⟨_, _, Row.alloc (Row.alloc (by with_reducible assumption) _) _⟩) | (with_reducible refine Row.other ?_ (by first | omega | (simp; done) | (simp; omega)) _)))
  have c_b_0_4 := R_b_4.cell 0 rfl
  have c_b_1_4 := R_b_4.cell 1 rfl
  have c_b_2_4 := R_b_4.cell 2 rfl
  have c_b_3_4 := R_b_4.cell 3 rfl
  have c_b_4_4 := R_b_4.cell 4 rfl
  have c_b_5_4 := R_b_4.cell 5 rfl
  have c_b_6_4 := R_b_4.cell 6 rfl
  have c_b_7_4 := R_b_4.cell 7 rfl
  have c_b_8_4 := R_b_4.cell 8 rfl
  have c_b_9_4 := R_b_4.cell 9 rfl
  have l_b_4 := R_b_4.lt
  replace K := K.step (show Below w3.heap.size w3 w4 by (repeat' (first | (with_reducible exact Below.refl _ _) | (with_reducible assumption) | (with_reducible exact Bw.out (by with_reducible assumption)) | (with_reducible refine bw_alloc ?_ _) | (with_reducible refine bw_step ?_ (by with_reducible assumption)) | (with_reducible refine Below.alloc ?_ ?_ _) | (with_reducible refine Below.drew ?_) | (with_reducible refine below_drewN ?_ _) | (with_reducible refine Below.setCell ?_ ?_ _) | (with_reducible refine below_step ?_ (by with_reducible assumption) ?_) | (with_reducible exact Nat.le_refl _) | omega | (simp; omega) | (simp; done))))
  have HB4 : Below w.heap.size w w4 := by (repeat' (first | (with_reducible exact Below.refl _ _) | (with_reducible assumption) | (with_reducible exact Bw.out (by with_reducible assumption)) | (with_reducible refine bw_alloc ?_ _) | (with_reducible refine bw_step ?_ (by with_reducible assumption)) | (with_reducible refine Below.alloc ?_ ?_ _) | (with_reducible refine Below.drew ?_) | (with_reducible refine below_drewN ?_ _) | (with_reducible refine Below.setCell ?_ ?_ _) | (with_reducible refine below_step ?_ (by with_reducible assumption) ?_) | (with_reducible exact Nat.le_refl _) | omega | (simp; omega) | (simp; done)))
  clear R_b_3 c_b_0_3 c_b_1_3 c_b_2_3 c_b_3_3 c_b_4_3 c_b_5_3 c_b_6_3 c_b_7_3 c_b_8_3 c_b_9_3 hb3 HB3
  go_wp2_with fail
  refine (ex_Held 3 5 3 0 C P _ (K.step (by (repeat' (first | (with_reducible exact Below.refl _ _) | (with_reducible assumption) | (with_reducible exact Bw.out (by with_reducible assumption)) | (with_reducible refine bw_alloc ?_ _) | (with_reducible refine bw_step ?_ (by with_reducible assumption)) | (with_reducible refine Below.alloc ?_ ?_ _) | (with_reducible refine Below.drew ?_) | (with_reducible refine below_drewN ?_ _) | (with_reducible refine Below.setCell ?_ ?_ _) | (with_reducible refine below_step ?_ (by with_reducible assumption) ?_) | (with_reducible exact Nat.le_refl _) | omega | (simp; omega) | (simp; done))))) (by decide +kernel) (by decide +kernel)).mono ?_
  rintro e w5 ⟨rfl, hb5⟩
  have R_b_5 : Row w5 (w1.heap.size) [.int .i64 1, .int .i64 1, .int .i64 10, .int .i64 5, .int .i64 7, .slice (some ⟨C, 0, none⟩) 2 2, .int .i64 3, .int .i64 4, .int .i64 100, .slice (some ⟨P, 0, none⟩) 2 2] := by (repeat' (first | (with_reducible assumption) | (with_reducible refine Row.new' _ _ _ (by first | rfl | (simp; done) | omega)) | (with_reducible refine Row.alloc ?_ _) | (with_reducible refine Row.drew ?_) | (with_reducible refine Row.drewN ?_ _) | (with_reducible refine Row.step ?_ (by with_reducible assumption)) | (with_reducible refine Row.set2' ?_ _ _; first | exact ⟨_, _, by with_reducible assumption⟩ | exact ⟨_, _, Row.alloc (by with_reducible assumption) _⟩ | exact ⟨_, _, Row.alloc (Row.alloc (by with_reducible assumption) _) _⟩) | (with_reducible refine Row.other ?_ (by first | omega | (simp; done) | (simp; omega)) _)))
  have c_b_0_5 := R_b_5.cell 0 rfl
  have c_b_1_5 := R_b_5.cell 1 rfl
  have c_b_2_5 := R_b_5.cell 2 rfl
  have c_b_3_5 := R_b_5.cell 3 rfl
  have c_b_4_5 := R_b_5.cell 4 rfl
  have c_b_5_5 := R_b_5.cell 5 rfl
  have c_b_6_5 := R_b_5.cell 6 rfl
  have c_b_7_5 := R_b_5.cell 7 rfl
  have c_b_8_5 := R_b_5.cell 8 rfl
  have c_b_9_5 := R_b_5.cell 9 rfl
  have l_b_5 := R_b_5.lt
  replace K := K.step (show Below w4.heap.size w4 w5 by (repeat' (first | (with_reducible exact Below.refl _ _) | (with_reducible assumption) | (with_reducible exact Bw.out (by with_reducible assumption)) | (with_reducible refine bw_alloc ?_ _) | (with_reducible refine bw_step ?_ (by with_reducible assumption)) | (with_reducible refine Below.alloc ?_ ?_ _) | (with_reducible refine Below.drew ?_) | (with_reducible refine below_drewN ?_ _) | (with_reducible refine Below.setCell ?_ ?_ _) | (with_reducible refine below_step ?_ (by with_reducible assumption) ?_) | (with_reducible exact Nat.le_refl _) | omega | (simp; omega) | (simp; done))))
  have HB5 : Below w.heap.size w w5 := by (repeat' (first | (with_reducible exact Below.refl _ _) | (with_reducible assumption) | (with_reducible exact Bw.out (by with_reducible assumption)) | (with_reducible refine bw_alloc ?_ _) | (with_reducible refine bw_step ?_ (by with_reducible assumption)) | (with_reducible refine Below.alloc ?_ ?_ _) | (with_reducible refine Below.drew ?_) | (with_reducible refine below_drewN ?_ _) | (with_reducible refine Below.setCell ?_ ?_ _) | (with_reducible refine below_step ?_ (by with_reducible assumption) ?_) | (with_reducible exact Nat.le_refl _) | omega | (simp; omega) | (simp; done)))
  clear R_b_4 c_b_0_4 c_b_1_4 c_b_2_4 c_b_3_4 c_b_4_4 c_b_5_4 c_b_6_4 c_b_7_4 c_b_8_4 c_b_9_4 hb4 HB4
  go_wp2_with fail
  refine (ex_Held 3 7 0 4 C P _ (K.step (by (repeat' (first | (with_reducible exact Below.refl _ _) | (with_reducible assumption) | (with_reducible exact Bw.out (by with_reducible assumption)) | (with_reducible refine bw_alloc ?_ _) | (with_reducible refine bw_step ?_ (by with_reducible assumption)) | (with_reducible refine Below.alloc ?_ ?_ _) | (with_reducible refine Below.drew ?_) | (with_reducible refine below_drewN ?_ _) | (with_reducible refine Below.setCell ?_ ?_ _) | (with_reducible refine below_step ?_ (by with_reducible assumption) ?_) | (with_reducible exact Nat.le_refl _) | omega | (simp; omega) | (simp; done))))) (by decide +kernel) (by decide +kernel)).mono ?_
  rintro e w6 ⟨rfl, hb6⟩
  have R_b_6 : Row w6 (w1.heap.size) [.int .i64 1, .int .i64 1, .int .i64 10, .int .i64 5, .int .i64 7, .slice (some ⟨C, 0, none⟩) 2 2, .int .i64 3, .int .i64 4, .int .i64 100, .slice (some ⟨P, 0, none⟩) 2 2] := by (repeat' (first | (with_reducible assumption) | (with_reducible refine Row.new' _ _ _ (by first | rfl | (simp; done) | omega)) | (with_reducible refine Row.alloc ?_ _) | (with_reducible refine Row.drew ?_) | (with_reducible refine Row.drewN ?_ _) | (with_reducible refine Row.step ?_ (by with_reducible assumption)) | (with_reducible refine Row.set2' ?_ _ _; first | exact ⟨_, _, by with_reducible assumption⟩ | exact ⟨_, _, Row.alloc (by with_reducible assumption) _⟩ | exact ⟨_, _, Row.alloc (Row.alloc (by with_reducible assumption) _) _⟩) | (with_reducible refine Row.other ?_ (by first | omega | (simp; done) | (simp; omega)) _)))
  have c_b_0_6 := R_b_6.cell 0 rfl
  have c_b_1_6 := R_b_6.cell 1 rfl
  have c_b_2_6 := R_b_6.cell 2 rfl
  have c_b_3_6 := R_b_6.cell 3 rfl
  have c_b_4_6 := R_b_6.cell 4 rfl
  have c_b_5_6 := R_b_6.cell 5 rfl
  have c_b_6_6 := R_b_6.cell 6 rfl
  have c_b_7_6 := R_b_6.cell 7 rfl
  have c_b_8_6 := R_b_6.cell 8 rfl
  have c_b_9_6 := R_b_6.cell 9 rfl
  have l_b_6 := R_b_6.lt
  replace K := K.step (show Below w5.heap.size w5 w6 by (repeat' (first | (with_reducible exact Below.refl _ _) | (with_reducible assumption) | (with_reducible exact Bw.out (by with_reducible assumption)) | (with_reducible refine bw_alloc ?_ _) | (with_reducible refine bw_step ?_ (by with_reducible assumption)) | (with_reducible refine Below.alloc ?_ ?_ _) | (with_reducible refine Below.drew ?_) | (with_reducible refine below_drewN ?_ _) | (with_reducible refine Below.setCell ?_ ?_ _) | (with_reducible refine below_step ?_ (by with_reducible assumption) ?_) | (with_reducible exact Nat.le_refl _) | omega | (simp; omega) | (simp; done))))
  have HB6 : Below w.heap.size w w6 := by (repeat' (first | (with_reducible exact Below.refl _ _) | (with_reducible assumption) | (with_reducible exact Bw.out (by with_reducible assumption)) | (with_reducible refine bw_alloc ?_ _) | (with_reducible refine bw_step ?_ (by with_reducible assumption)) | (with_reducible refine Below.alloc ?_ ?_ _) | (with_reducible refine Below.drew ?_) | (with_reducible refine below_drewN ?_ _) | (with_reducible refine Below.setCell ?_ ?_ _) | (with_reducible refine below_step ?_ (by with_reducible assumption) ?_) | (with_reducible exact Nat.le_refl _) | omega | (simp; omega) | (simp; done)))
  clear R_b_5 c_b_0_5 c_b_1_5 c_b_2_5 c_b_3_5 c_b_4_5 c_b_5_5 c_b_6_5 c_b_7_5 c_b_8_5 c_b_9_5 hb5 HB5
  go_wp2_with fail
  refine (ex_Fee C P _ (K.step (by (repeat' (first | (with_reducible exact Below.refl _ _) | (with_reducible assumption) | (with_reducible exact Bw.out (by with_reducible assumption)) | (with_reducible refine bw_alloc ?_ _) | (with_reducible refine bw_step ?_ (by with_reducible assumption)) | (with_reducible refine Below.alloc ?_ ?_ _) | (with_reducible refine Below.drew ?_) | (with_reducible refine below_drewN ?_ _) | (with_reducible refine Below.setCell ?_ ?_ _) | (with_reducible refine below_step ?_ (by with_reducible assumption) ?_) | (with_reducible exact Nat.le_refl _) | omega | (simp; omega) | (simp; done)))))).mono ?_
  rintro e w7 ⟨rfl, hb7⟩
  have R_b_7 : Row w7 (w1.heap.size) [.int .i64 1, .int .i64 1, .int .i64 10, .int .i64 5, .int .i64 7, .slice (some ⟨C, 0, none⟩) 2 2, .int .i64 3, .int .i64 4, .int .i64 100, .slice (some ⟨P, 0, none⟩) 2 2] := by (repeat' (first | (with_reducible assumption) | (with_reducible refine Row.new' _ _ _ (by first | rfl | (simp; done) | omega)) | (with_reducible refine Row.alloc ?_ _) | (with_reducible refine Row.drew ?_) | (with_reducible refine Row.drewN ?_ _) | (with_reducible refine Row.step ?_ (by with_reducible assumption)) | (with_reducible refine Row.set2' ?_ _ _; first | exact ⟨_, _, by with_reducible assumption⟩ | exact ⟨_, _, Row.alloc (by with_reducible assumption) _⟩ | exact ⟨_, _, Row.alloc (Row.alloc (by with_reducible assumption) _) _⟩) | (with_reducible refine Row.other ?_ (by first | omega | (simp; done) | (simp; omega)) _)))
  have c_b_0_7 := R_b_7.cell 0 rfl
  have c_b_1_7 := R_b_7.cell 1 rfl
  have c_b_2_7 := R_b_7.cell 2 rfl
  have c_b_3_7 := R_b_7.cell 3 rfl
  have c_b_4_7 := R_b_7.cell 4 rfl
  have c_b_5_7 := R_b_7.cell 5 rfl
  have c_b_6_7 := R_b_7.cell 6 rfl
  have c_b_7_7 := R_b_7.cell 7 rfl
  have c_b_8_7 := R_b_7.cell 8 rfl
  have c_b_9_7 := R_b_7.cell 9 rfl
  have l_b_7 := R_b_7.lt
  replace K := K.step (show Below w6.heap.size w6 w7 by (repeat' (first | (with_reducible exact Below.refl _ _) | (with_reducible assumption) | (with_reducible exact Bw.out (by with_reducible assumption)) | (with_reducible refine bw_alloc ?_ _) | (with_reducible refine bw_step ?_ (by with_reducible assumption)) | (with_reducible refine Below.alloc ?_ ?_ _) | (with_reducible refine Below.drew ?_) | (with_reducible refine below_drewN ?_ _) | (with_reducible refine Below.setCell ?_ ?_ _) | (with_reducible refine below_step ?_ (by with_reducible assumption) ?_) | (with_reducible exact Nat.le_refl _) | omega | (simp; omega) | (simp; done))))
  have HB7 : Below w.heap.size w w7 := by (repeat' (first | (with_reducible exact Below.refl _ _) | (with_reducible assumption) | (with_reducible exact Bw.out (by with_reducible assumption)) | (with_reducible refine bw_alloc ?_ _) | (with_reducible refine bw_step ?_ (by with_reducible assumption)) | (with_reducible refine Below.alloc ?_ ?_ _) | (with_reducible refine Below.drew ?_) | (with_reducible refine below_drewN ?_ _) | (with_reducible refine Below.setCell ?_ ?_ _) | (with_reducible refine below_step ?_ (by with_reducible assumption) ?_) | (with_reducible exact Nat.le_refl _) | omega | (simp; omega) | (simp; done)))
  clear R_b_6 c_b_0_6 c_b_1_6 c_b_2_6 c_b_3_6 c_b_4_6 c_b_5_6 c_b_6_6 c_b_7_6 c_b_8_6 c_b_9_6 hb6 HB6
  go_wp2_with fail
  refine (ex_Pick1 C P _ (K.step (by (repeat' (first | (with_reducible exact Below.refl _ _) | (with_reducible assumption) | (with_reducible exact Bw.out (by with_reducible assumption)) | (with_reducible refine bw_alloc ?_ _) | (with_reducible refine bw_step ?_ (by with_reducible assumption)) | (with_reducible refine Below.alloc ?_ ?_ _) | (with_reducible refine Below.drew ?_) | (with_reducible refine below_drewN ?_ _) | (with_reducible refine Below.setCell ?_ ?_ _) | (with_reducible refine below_step ?_ (by with_reducible assumption) ?_) | (with_reducible exact Nat.le_refl _) | omega | (simp; omega) | (simp; done)))))).mono ?_
  rintro e w8 ⟨g, rfl, KG, hb8⟩
  have R_b_8 : Row w8 (w1.heap.size) [.int .i64 1, .int .i64 1, .int .i64 10, .int .i64 5, .int .i64 7, .slice (some ⟨C, 0, none⟩) 2 2, .int .i64 3, .int .i64 4, .int .i64 100, .slice (some ⟨P, 0, none⟩) 2 2] := by (repeat' (first | (with_reducible assumption) | (with_reducible refine Row.new' _ _ _ (by first | rfl | (simp; done) | omega)) | (with_reducible refine Row.alloc ?_ _) | (with_reducible refine Row.drew ?_) | (with_reducible refine Row.drewN ?_ _) | (with_reducible refine Row.step ?_ (by with_reducible assumption)) | (with_reducible refine Row.set2' ?_ _ _; first | exact ⟨_, _, by with_reducible assumption⟩ | exact ⟨_, _, Row.alloc (by with_reducible assumption) _⟩ | exact ⟨_, _, Row.alloc (Row.alloc (by with_reducible assumption) _) _⟩) | (with_reducible refine Row.other ?_ (by first | omega | (simp; done) | (simp; omega)) _)))
  have c_b_0_8 := R_b_8.cell 0 rfl
  have c_b_1_8 := R_b_8.cell 1 rfl
  have c_b_2_8 := R_b_8.cell 2 rfl
  have c_b_3_8 := R_b_8.cell 3 rfl
  have c_b_4_8 := R_b_8.cell 4 rfl
  have c_b_5_8 := R_b_8.cell 5 rfl
  have c_b_6_8 := R_b_8.cell 6 rfl
  have c_b_7_8 := R_b_8.cell 7 rfl
  have c_b_8_8 := R_b_8.cell 8 rfl
  have c_b_9_8 := R_b_8.cell 9 rfl
  have l_b_8 := R_b_8.lt
  replace K := K.step (show Below w7.heap.size w7 w8 by (repeat' (first | (with_reducible exact Below.refl _ _) | (with_reducible assumption) | (with_reducible exact Bw.out (by with_reducible assumption)) | (with_reducible refine bw_alloc ?_ _) | (with_reducible refine bw_step ?_ (by with_reducible assumption)) | (with_reducible refine Below.alloc ?_ ?_ _) | (with_reducible refine Below.drew ?_) | (with_reducible refine below_drewN ?_ _) | (with_reducible refine Below.setCell ?_ ?_ _) | (with_reducible refine below_step ?_ (by with_reducible assumption) ?_) | (with_reducible exact Nat.le_refl _) | omega | (simp; omega) | (simp; done))))
  have HB8 : Below w.heap.size w w8 := by (repeat' (first | (with_reducible exact Below.refl _ _) | (with_reducible assumption) | (with_reducible exact Bw.out (by with_reducible assumption)) | (with_reducible refine bw_alloc ?_ _) | (with_reducible refine bw_step ?_ (by with_reducible assumption)) | (with_reducible refine Below.alloc ?_ ?_ _) | (with_reducible refine Below.drew ?_) | (with_reducible refine below_drewN ?_ _) | (with_reducible refine Below.setCell ?_ ?_ _) | (with_reducible refine below_step ?_ (by with_reducible assumption) ?_) | (with_reducible exact Nat.le_refl _) | omega | (simp; omega) | (simp; done)))
  clear R_b_7 c_b_0_7 c_b_1_7 c_b_2_7 c_b_3_7 c_b_4_7 c_b_5_7 c_b_6_7 c_b_7_7 c_b_8_7 c_b_9_7 hb7 HB7
  go_wp2_with fail
  refine (ex_Pick2 C P _ (K.step (by (repeat' (first | (with_reducible exact Below.refl _ _) | (with_reducible assumption) | (with_reducible exact Bw.out (by with_reducible assumption)) | (with_reducible refine bw_alloc ?_ _) | (with_reducible refine bw_step ?_ (by with_reducible assumption)) | (with_reducible refine Below.alloc ?_ ?_ _) | (with_reducible refine Below.drew ?_) | (with_reducible refine below_drewN ?_ _) | (with_reducible refine Below.setCell ?_ ?_ _) | (with_reducible refine below_step ?_ (by with_reducible assumption) ?_) | (with_reducible exact Nat.le_refl _) | omega | (simp; omega) | (simp; done)))))).mono ?_
  rintro e w9 ⟨rfl, hb9⟩
  have R_b_9 : Row w9 (w1.heap.size) [.int .i64 1, .int .i64 1, .int .i64 10, .int .i64 5, .int .i64 7, .slice (some ⟨C, 0, none⟩) 2 2, .int .i64 3, .int .i64 4, .int .i64 100, .slice (some ⟨P, 0, none⟩) 2 2] := by (repeat' (first | (with_reducible assumption) | (with_reducible refine Row.new' _ _ _ (by first | rfl | (simp; done) | omega)) | (with_reducible refine Row.alloc ?_ _) | (with_reducible refine Row.drew ?_) | (with_reducible refine Row.drewN ?_ _) | (with_reducible refine Row.step ?_ (by with_reducible assumption)) | (with_reducible refine Row.set2' ?_ _ _; first | exact ⟨_, _, by with_reducible assumption⟩ | exact ⟨_, _, Row.alloc (by with_reducible assumption) _⟩ | exact ⟨_, _, Row.alloc (Row.alloc (by with_reducible assumption) _) _⟩) | (with_reducible refine Row.other ?_ (by first | omega | (simp; done) | (simp; omega)) _)))
  have c_b_0_9 := R_b_9.cell 0 rfl
  have c_b_1_9 := R_b_9.cell 1 rfl
  have c_b_2_9 := R_b_9.cell 2 rfl
  have c_b_3_9 := R_b_9.cell 3 rfl
  have c_b_4_9 := R_b_9.cell 4 rfl
  have c_b_5_9 := R_b_9.cell 5 rfl
  have c_b_6_9 := R_b_9.cell 6 rfl
  have c_b_7_9 := R_b_9.cell 7 rfl
  have c_b_8_9 := R_b_9.cell 8 rfl
  have c_b_9_9 := R_b_9.cell 9 rfl
  have l_b_9 := R_b_9.lt
  have R_m_9 : Row w9 (w8.heap.size) [.int .i64 1, .int .i64 1, .int .i64 10, .int .i64 5, .int .i64 7, .slice (some ⟨C, 0, none⟩) 2 2, .int .i64 3, .int .i64 4, .int .i64 100, .slice (some ⟨g, 0, none⟩) 2 2] := by (repeat' (first | (with_reducible assumption) | (with_reducible refine Row.new' _ _ _ (by first | rfl | (simp; done) | omega)) | (with_reducible refine Row.alloc ?_ _) | (with_reducible refine Row.drew ?_) | (with_reducible refine Row.drewN ?_ _) | (with_reducible refine Row.step ?_ (by with_reducible assumption)) | (with_reducible refine Row.set2' ?_ _ _; first | exact ⟨_, _, by with_reducible assumption⟩ | exact ⟨_, _, Row.alloc (by with_reducible assumption) _⟩ | exact ⟨_, _, Row.alloc (Row.alloc (by with_reducible assumption) _) _⟩) | (with_reducible refine Row.other ?_ (by first | omega | (simp; done) | (simp; omega)) _)))
  have c_m_0_9 := R_m_9.cell 0 rfl
  have c_m_1_9 := R_m_9.cell 1 rfl
  have c_m_2_9 := R_m_9.cell 2 rfl
  have c_m_3_9 := R_m_9.cell 3 rfl
  have c_m_4_9 := R_m_9.cell 4 rfl
  have c_m_5_9 := R_m_9.cell 5 rfl
  have c_m_6_9 := R_m_9.cell 6 rfl
  have c_m_7_9 := R_m_9.cell 7 rfl
  have c_m_8_9 := R_m_9.cell 8 rfl
  have c_m_9_9 := R_m_9.cell 9 rfl
  have l_m_9 := R_m_9.lt
  replace K := K.step (show Below w8.heap.size w8 w9 by (repeat' (first | (with_reducible exact Below.refl _ _) | (with_reducible assumption) | (with_reducible exact Bw.out (by with_reducible assumption)) | (with_reducible refine bw_alloc ?_ _) | (with_reducible refine bw_step ?_ (by with_reducible assumption)) | (with_reducible refine Below.alloc ?_ ?_ _) | (with_reducible refine Below.drew ?_) | (with_reducible refine below_drewN ?_ _) | (with_reducible refine Below.setCell ?_ ?_ _) | (with_reducible refine below_step ?_ (by with_reducible assumption) ?_) | (with_reducible exact Nat.le_refl _) | omega | (simp; omega) | (simp; done))))
  replace KG := KG.step (show Below w8.heap.size w8 w9 by (repeat' (first | (with_reducible exact Below.refl _ _) | (with_reducible assumption) | (with_reducible exact Bw.out (by with_reducible assumption)) | (with_reducible refine bw_alloc ?_ _) | (with_reducible refine bw_step ?_ (by with_reducible assumption)) | (with_reducible refine Below.alloc ?_ ?_ _) | (with_reducible refine Below.drew ?_) | (with_reducible refine below_drewN ?_ _) | (with_reducible refine Below.setCell ?_ ?_ _) | (with_reducible refine below_step ?_ (by with_reducible assumption) ?_) | (with_reducible exact Nat.le_refl _) | omega | (simp; omega) | (simp; done))))
  have HB9 : Below w.heap.size w w9 := by (repeat' (first | (with_reducible exact Below.refl _ _) | (with_reducible assumption) | (with_reducible exact Bw.out (by with_reducible assumption)) | (with_reducible refine bw_alloc ?_ _) | (with_reducible refine bw_step ?_ (by with_reducible assumption)) | (with_reducible refine Below.alloc ?_ ?_ _) | (with_reducible refine Below.drew ?_) | (with_reducible refine below_drewN ?_ _) | (with_reducible refine Below.setCell ?_ ?_ _) | (with_reducible refine below_step ?_ (by with_reducible assumption) ?_) | (with_reducible exact Nat.le_refl _) | omega | (simp; omega) | (simp; done)))
  clear R_b_8 c_b_0_8 c_b_1_8 c_b_2_8 c_b_3_8 c_b_4_8 c_b_5_8 c_b_6_8 c_b_7_8 c_b_8_8 c_b_9_8 hb8 HB8
  go_wp2_with fail
  refine (ex_Pick3 C P _ (K.step (by (repeat' (first | (with_reducible exact Below.refl _ _) | (with_reducible assumption) | (with_reducible exact Bw.out (by with_reducible assumption)) | (with_reducible refine bw_alloc ?_ _) | (with_reducible refine bw_step ?_ (by with_reducible assumption)) | (with_reducible refine Below.alloc ?_ ?_ _) | (with_reducible refine Below.drew ?_) | (with_reducible refine below_drewN ?_ _) | (with_reducible refine Below.setCell ?_ ?_ _) | (with_reducible refine below_step ?_ (by with_reducible assumption) ?_) | (with_reducible exact Nat.le_refl _) | omega | (simp; omega) | (simp; done)))))).mono ?_
  rintro e w10 ⟨rfl, hb10⟩
  have R_b_10 : Row w10 (w1.heap.size) [.int .i64 1, .int .i64 1, .int .i64 10, .int .i64 5, .int .i64 7, .slice (some ⟨C, 0, none⟩) 2 2, .int .i64 3, .int .i64 4, .int .i64 100, .slice (some ⟨P, 0, none⟩) 2 2] := by (repeat' (first | (with_reducible assumption) | (with_reducible refine Row.new' _ _ _ (by first | rfl | (simp; done) | omega)) | (with_reducible refine Row.alloc ?_ _) | (with_reducible refine Row.drew ?_) | (with_reducible refine Row.drewN ?_ _) | (with_reducible refine Row.step ?_ (by with_reducible assumption)) | (with_reducible refine Row.set2' ?_ _ _; first | exact ⟨_, _, by with_reducible assumption⟩ | exact ⟨_, _, Row.alloc (by with_reducible assumption) _⟩ | exact ⟨_, _, Row.alloc (Row.alloc (by with_reducible assumption) _) _⟩) | (with_reducible refine Row.other ?_ (by first | omega | (simp; done) | (simp; omega)) _)))
  have c_b_0_10 := R_b_10.cell 0 rfl
  have c_b_1_10 := R_b_10.cell 1 rfl
  have c_b_2_10 := R_b_10.cell 2 rfl
  have c_b_3_10 := R_b_10.cell 3 rfl
  have c_b_4_10 := R_b_10.cell 4 rfl
  have c_b_5_10 := R_b_10.cell 5 rfl
  have c_b_6_10 := R_b_10.cell 6 rfl
  have c_b_7_10 := R_b_10.cell 7 rfl
  have c_b_8_10 := R_b_10.cell 8 rfl
  have c_b_9_10 := R_b_10.cell 9 rfl
  have l_b_10 := R_b_10.lt
  have R_m_10 : Row w10 (w8.heap.size) [.int .i64 1, .int .i64 1, .int .i64 10, .int .i64 5, .int .i64 7, .slice (some ⟨C, 0, none⟩) 2 2, .int .i64 3, .int .i64 4, .int .i64 100, .slice (some ⟨g, 0, none⟩) 2 2] := by (repeat' (first | (with_reducible assumption) | (with_reducible refine Row.new' _ _ _ (by first | rfl | (simp; done) | omega)) | (with_reducible refine Row.alloc ?_ _) | (with_reducible refine Row.drew ?_) | (with_reducible refine Row.drewN ?_ _) | (with_reducible refine Row.step ?_ (by with_reducible assumption)) | (with_reducible refine Row.set2' ?_ _ _; first | exact ⟨_, _, by with_reducible assumption⟩ | exact ⟨_, _, Row.alloc (by with_reducible assumption) _⟩ | exact ⟨_, _, Row.alloc (Row.alloc (by with_reducible assumption) _) _⟩) | (with_reducible refine Row.other ?_ (by first | omega | (simp; done) | (simp; omega)) _)))
  have c_m_0_10 := R_m_10.cell 0 rfl
  have c_m_1_10 := R_m_10.cell 1 rfl
  have c_m_2_10 := R_m_10.cell 2 rfl
  have c_m_3_10 := R_m_10.cell 3 rfl
  have c_m_4_10 := R_m_10.cell 4 rfl
  have c_m_5_10 := R_m_10.cell 5 rfl
  have c_m_6_10 := R_m_10.cell 6 rfl
  have c_m_7_10 := R_m_10.cell 7 rfl
  have c_m_8_10 := R_m_10.cell 8 rfl
  have c_m_9_10 := R_m_10.cell 9 rfl
  have l_m_10 := R_m_10.lt
  replace K := K.step (show Below w9.heap.size w9 w10 by (repeat' (first | (with_reducible exact Below.refl _ _) | (with_reducible assumption) | (with_reducible exact Bw.out (by with_reducible assumption)) | (with_reducible refine bw_alloc ?_ _) | (with_reducible refine bw_step ?_ (by with_reducible assumption)) | (with_reducible refine Below.alloc ?_ ?_ _) | (with_reducible refine Below.drew ?_) | (with_reducible refine below_drewN ?_ _) | (with_reducible refine Below.setCell ?_ ?_ _) | (with_reducible refine below_step ?_ (by with_reducible assumption) ?_) | (with_reducible exact Nat.le_refl _) | omega | (simp; omega) | (simp; done))))
  replace KG := KG.step (show Below w9.heap.size w9 w10 by (repeat' (first | (with_reducible exact Below.refl _ _) | (with_reducible assumption) | (with_reducible exact Bw.out (by with_reducible assumption)) | (with_reducible refine bw_alloc ?_ _) | (with_reducible refine bw_step ?_ (by with_reducible assumption)) | (with_reducible refine Below.alloc ?_ ?_ _) | (with_reducible refine Below.drew ?_) | (with_reducible refine below_drewN ?_ _) | (with_reducible refine Below.setCell ?_ ?_ _) | (with_reducible refine below_step ?_ (by with_reducible assumption) ?_) | (with_reducible exact Nat.le_refl _) | omega | (simp; omega) | (simp; done))))
  have HB10 : Below w.heap.size w w10 := by (repeat' (first | (with_reducible exact Below.refl _ _) | (with_reducible assumption) | (with_reducible exact Bw.out (by with_reducible assumption)) | (with_reducible refine bw_alloc ?_ _) | (with_reducible refine bw_step ?_ (by with_reducible assumption)) | (with_reducible refine Below.alloc ?_ ?_ _) | (with_reducible refine Below.drew ?_) | (with_reducible refine below_drewN ?_ _) | (with_reducible refine Below.setCell ?_ ?_ _) | (with_reducible refine below_step ?_ (by with_reducible assumption) ?_) | (with_reducible exact Nat.le_refl _) | omega | (simp; omega) | (simp; done)))
  clear R_b_9 c_b_0_9 c_b_1_9 c_b_2_9 c_b_3_9 c_b_4_9 c_b_5_9 c_b_6_9 c_b_7_9 c_b_8_9 c_b_9_9 R_m_9 c_m_0_9 c_m_1_9 c_m_2_9 c_m_3_9 c_m_4_9 c_m_5_9 c_m_6_9 c_m_7_9 c_m_8_9 c_m_9_9 hb9 HB9
  go_wp2_with fail
  refine (no_Fee _).mono ?_
  rintro e w11 ⟨rfl, hb11⟩
  have R_b_11 : Row w11 (w1.heap.size) [.int .i64 1, .int .i64 1, .int .i64 10, .int .i64 5, .int .i64 7, .slice (some ⟨C, 0, none⟩) 2 2, .int .i64 3, .int .i64 4, .int .i64 100, .slice (some ⟨P, 0, none⟩) 2 2] := by (repeat' (first | (with_reducible assumption) | (with_reducible refine Row.new' _ _ _ (by first | rfl | (simp; done) | omega)) | (with_reducible refine Row.alloc ?_ _) | (with_reducible refine Row.drew ?_) | (with_reducible refine Row.drewN ?_ _) | (with_reducible refine Row.step ?_ (by with_reducible assumption)) | (with_reducible refine Row.set2' ?_ _ _; first | exact ⟨_, _, by with_reducible assumption⟩ | exact ⟨_, _, Row.alloc (by with_reducible assumption) _⟩ | exact ⟨_, _, Row.alloc (Row.alloc (by with_reducible assumption) _) _⟩) | (with_reducible refine Row.other ?_ (by first | omega | (simp; done) | (simp; omega)) _)))
  have c_b_0_11 := R_b_11.cell 0 rfl
  have c_b_1_11 := R_b_11.cell 1 rfl
  have c_b_2_11 := R_b_11.cell 2 rfl
  have c_b_3_11 := R_b_11.cell 3 rfl
  have c_b_4_11 := R_b_11.cell 4 rfl
  have c_b_5_11 := R_b_11.cell 5 rfl
  have c_b_6_11 := R_b_11.cell 6 rfl
  have c_b_7_11 := R_b_11.cell 7 rfl
  have c_b_8_11 := R_b_11.cell 8 rfl
  have c_b_9_11 := R_b_11.cell 9 rfl
  have l_b_11 := R_b_11.lt
  have R_m_11 : Row w11 (w8.heap.size) [.int .i64 1, .int .i64 1, .int .i64 10, .int .i64 5, .int .i64 7, .slice (some ⟨C, 0, none⟩) 2 2, .int .i64 3, .int .i64 4, .int .i64 100, .slice (some ⟨g, 0, none⟩) 2 2] := by (repeat' (first | (with_reducible assumption) | (with_reducible refine Row.new' _ _ _ (by first | rfl | (simp; done) | omega)) | (with_reducible refine Row.alloc ?_ _) | (with_reducible refine Row.drew ?_) | (with_reducible refine Row.drewN ?_ _) | (with_reducible refine Row.step ?_ (by with_reducible assumption)) | (with_reducible refine Row.set2' ?_ _ _; first | exact ⟨_, _, by with_reducible assumption⟩ | exact ⟨_, _, Row.alloc (by with_reducible assumption) _⟩ | exact ⟨_, _, Row.alloc (Row.alloc (by with_reducible assumption) _) _⟩) | (with_reducible refine Row.other ?_ (by first | omega | (simp; done) | (simp; omega)) _)))
  have c_m_0_11 := R_m_11.cell 0 rfl
  have c_m_1_11 := R_m_11.cell 1 rfl
  have c_m_2_11 := R_m_11.cell 2 rfl
  have c_m_3_11 := R_m_11.cell 3 rfl
  have c_m_4_11 := R_m_11.cell 4 rfl
  have c_m_5_11 := R_m_11.cell 5 rfl
  have c_m_6_11 := R_m_11.cell 6 rfl
  have c_m_7_11 := R_m_11.cell 7 rfl
  have c_m_8_11 := R_m_11.cell 8 rfl
  have c_m_9_11 := R_m_11.cell 9 rfl
  have l_m_11 := R_m_11.lt
  replace K := K.step (show Below w10.heap.size w10 w11 by (repeat' (first | (with_reducible exact Below.refl _ _) | (with_reducible assumption) | (with_reducible exact Bw.out (by with_reducible assumption)) | (with_reducible refine bw_alloc ?_ _) | (with_reducible refine bw_step ?_ (by with_reducible assumption)) | (with_reducible refine Below.alloc ?_ ?_ _) | (with_reducible refine Below.drew ?_) | (with_reducible refine below_drewN ?_ _) | (with_reducible refine Below.setCell ?_ ?_ _) | (with_reducible refine below_step ?_ (by with_reducible assumption) ?_) | (with_reducible exact Nat.le_refl _) | omega | (simp; omega) | (simp; done))))
  replace KG := KG.step (show Below w10.heap.size w10 w11 by (repeat' (first | (with_reducible exact Below.refl _ _) | (with_reducible assumption) | (with_reducible exact Bw.out (by with_reducible assumption)) | (with_reducible refine bw_alloc ?_ _) | (with_reducible refine bw_step ?_ (by with_reducible assumption)) | (with_reducible refine Below.alloc ?_ ?_ _) | (with_reducible refine Below.drew ?_) | (with_reducible refine below_drewN ?_ _) | (with_reducible refine Below.setCell ?_ ?_ _) | (with_reducible refine below_step ?_ (by with_reducible assumption) ?_) | (with_reducible exact Nat.le_refl _) | omega | (simp; omega) | (simp; done))))
  have HB11 : Below w.heap.size w w11 := by (repeat' (first | (with_reducible exact Below.refl _ _) | (with_reducible assumption) | (with_reducible exact Bw.out (by with_reducible assumption)) | (with_reducible refine bw_alloc ?_ _) | (with_reducible refine bw_step ?_ (by with_reducible assumption)) | (with_reducible refine Below.alloc ?_ ?_ _) | (with_reducible refine Below.drew ?_) | (with_reducible refine below_drewN ?_ _) | (with_reducible refine Below.setCell ?_ ?_ _) | (with_reducible refine below_step ?_ (by with_reducible assumption) ?_) | (with_reducible exact Nat.le_refl _) | omega | (simp; omega) | (simp; done)))
  clear R_b_10 c_b_0_10 c_b_1_10 c_b_2_10 c_b_3_10 c_b_4_10 c_b_5_10 c_b_6_10 c_b_7_10 c_b_8_10 c_b_9_10 R_m_10 c_m_0_10 c_m_1_10 c_m_2_10 c_m_3_10 c_m_4_10 c_m_5_10 c_m_6_10 c_m_7_10 c_m_8_10 c_m_9_10 hb10 HB10
  go_wp2_with fail
  refine (r_sameInts_c _ _ 2 2 _ _ [3, 1] [3, 1] true _ (by omega) (by omega) (KG.step (by (repeat' (first | (with_reducible exact Below.refl _ _) | (with_reducible assumption) | (with_reducible exact Bw.out (by with_reducible assumption)) | (with_reducible refine bw_alloc ?_ _) | (with_reducible refine bw_step ?_ (by with_reducible assumption)) | (with_reducible refine Below.alloc ?_ ?_ _) | (with_reducible refine Below.drew ?_) | (with_reducible refine below_drewN ?_ _) | (with_reducible refine Below.setCell ?_ ?_ _) | (with_reducible refine below_step ?_ (by with_reducible assumption) ?_) | (with_reducible exact Nat.le_refl _) | omega | (simp; omega) | (simp; done))))).sl (Row.slc (n := 2) (cs := [.int .i64 3, .int .i64 1]) (by (repeat' (first | (with_reducible assumption) | (with_reducible refine Row.new' _ _ _ (by first | rfl | (simp; done) | omega)) | (with_reducible refine Row.alloc ?_ _) | (with_reducible refine Row.drew ?_) | (with_reducible refine Row.drewN ?_ _) | (with_reducible refine Row.step ?_ (by with_reducible assumption)) | (with_reducible refine Row.set2' ?_ _ _; first | exact ⟨_, _, by with_reducible assumption⟩ | exact ⟨_, _, Row.alloc (by with_reducible assumption) _⟩ | exact ⟨_, _, Row.alloc (Row.alloc (by with_reducible assumption) _) _⟩) | (with_reducible refine Row.other ?_ (by first | omega | (simp; done) | (simp; omega)) _)))) rfl rfl (by omega)).sl (by decide +kernel)).mono ?_
  rintro e w12 ⟨rfl, hb12⟩
  have R_b_12 : Row w12 (w1.heap.size) [.int .i64 1, .int .i64 1, .int .i64 10, .int .i64 5, .int .i64 7, .slice (some ⟨C, 0, none⟩) 2 2, .int .i64 3, .int .i64 4, .int .i64 100, .slice (some ⟨P, 0, none⟩) 2 2] := by (repeat' (first | (with_reducible assumption) | (with_reducible refine Row.new' _ _ _ (by first | rfl | (simp; done) | omega)) | (with_reducible refine Row.alloc ?_ _) | (with_reducible refine Row.drew ?_) | (with_reducible refine Row.drewN ?_ _) | (with_reducible refine Row.step ?_ (by with_reducible assumption)) | (with_reducible refine Row.set2' ?_ _ _; first | exact ⟨_, _, by with_reducible assumption⟩ | exact ⟨_, _, Row.alloc (by with_reducible assumption) _⟩ | exact ⟨_, _, Row.alloc (Row.alloc (by with_reducible assumption) _) _⟩) | (with_reducible refine Row.other ?_ (by first | omega | (simp; done) | (simp; omega)) _)))
  have c_b_0_12 := R_b_12.cell 0 rfl
  have c_b_1_12 := R_b_12.cell 1 rfl
  have c_b_2_12 := R_b_12.cell 2 rfl
  have c_b_3_12 := R_b_12.cell 3 rfl
  have c_b_4_12 := R_b_12.cell 4 rfl
  have c_b_5_12 := R_b_12.cell 5 rfl
  have c_b_6_12 := R_b_12.cell 6 rfl
  have c_b_7_12 := R_b_12.cell 7 rfl
  have c_b_8_12 := R_b_12.cell 8 rfl
  have c_b_9_12 := R_b_12.cell 9 rfl
  have l_b_12 := R_b_12.lt
  have R_m_12 : Row w12 (w8.heap.size) [.int .i64 1, .int .i64 1, .int .i64 10, .int .i64 5, .int .i64 7, .slice (some ⟨C, 0, none⟩) 2 2, .int .i64 3, .int .i64 4, .int .i64 100, .slice (some ⟨g, 0, none⟩) 2 2] := by (repeat' (first | (with_reducible assumption) | (with_reducible refine Row.new' _ _ _ (by first | rfl | (simp; done) | omega)) | (with_reducible refine Row.alloc ?_ _) | (with_reducible refine Row.drew ?_) | (with_reducible refine Row.drewN ?_ _) | (with_reducible refine Row.step ?_ (by with_reducible assumption)) | (with_reducible refine Row.set2' ?_ _ _; first | exact ⟨_, _, by with_reducible assumption⟩ | exact ⟨_, _, Row.alloc (by with_reducible assumption) _⟩ | exact ⟨_, _, Row.alloc (Row.alloc (by with_reducible assumption) _) _⟩) | (with_reducible refine Row.other ?_ (by first | omega | (simp; done) | (simp; omega)) _)))
  have c_m_0_12 := R_m_12.cell 0 rfl
  have c_m_1_12 := R_m_12.cell 1 rfl
  have c_m_2_12 := R_m_12.cell 2 rfl
  have c_m_3_12 := R_m_12.cell 3 rfl
  have c_m_4_12 := R_m_12.cell 4 rfl
  have c_m_5_12 := R_m_12.cell 5 rfl
  have c_m_6_12 := R_m_12.cell 6 rfl
  have c_m_7_12 := R_m_12.cell 7 rfl
  have c_m_8_12 := R_m_12.cell 8 rfl
  have c_m_9_12 := R_m_12.cell 9 rfl
  have l_m_12 := R_m_12.lt
  replace K := K.step (show Below w11.heap.size w11 w12 by (repeat' (first | (with_reducible exact Below.refl _ _) | (with_reducible assumption) | (with_reducible exact Bw.out (by with_reducible assumption)) | (with_reducible refine bw_alloc ?_ _) | (with_reducible refine bw_step ?_ (by with_reducible assumption)) | (with_reducible refine Below.alloc ?_ ?_ _) | (with_reducible refine Below.drew ?_) | (with_reducible refine below_drewN ?_ _) | (with_reducible refine Below.setCell ?_ ?_ _) | (with_reducible refine below_step ?_ (by with_reducible assumption) ?_) | (with_reducible exact Nat.le_refl _) | omega | (simp; omega) | (simp; done))))
  replace KG := KG.step (show Below w11.heap.size w11 w12 by (repeat' (first | (with_reducible exact Below.refl _ _) | (with_reducible assumption) | (with_reducible exact Bw.out (by with_reducible assumption)) | (with_reducible refine bw_alloc ?_ _) | (with_reducible refine bw_step ?_ (by with_reducible assumption)) | (with_reducible refine Below.alloc ?_ ?_ _) | (with_reducible refine Below.drew ?_) | (with_reducible refine below_drewN ?_ _) | (with_reducible refine Below.setCell ?_ ?_ _) | (with_reducible refine below_step ?_ (by with_reducible assumption) ?_) | (with_reducible exact Nat.le_refl _) | omega | (simp; omega) | (simp; done))))
  have HB12 : Below w.heap.size w w12 := by (repeat' (first | (with_reducible exact Below.refl _ _) | (with_reducible assumption) | (with_reducible exact Bw.out (by with_reducible assumption)) | (with_reducible refine bw_alloc ?_ _) | (with_reducible refine bw_step ?_ (by with_reducible assumption)) | (with_reducible refine Below.alloc ?_ ?_ _) | (with_reducible refine Below.drew ?_) | (with_reducible refine below_drewN ?_ _) | (with_reducible refine Below.setCell ?_ ?_ _) | (with_reducible refine below_step ?_ (by with_reducible assumption) ?_) | (with_reducible exact Nat.le_refl _) | omega | (simp; omega) | (simp; done)))
  clear R_b_11 c_b_0_11 c_b_1_11 c_b_2_11 c_b_3_11 c_b_4_11 c_b_5_11 c_b_6_11 c_b_7_11 c_b_8_11 c_b_9_11 R_m_11 c_m_0_11 c_m_1_11 c_m_2_11 c_m_3_11 c_m_4_11 c_m_5_11 c_m_6_11 c_m_7_11 c_m_8_11 c_m_9_11 hb11 HB11
  go_wp2_with fail
  refine (ex_Valid C P _ (K.step (by (repeat' (first | (with_reducible exact Below.refl _ _) | (with_reducible assumption) | (with_reducible exact Bw.out (by with_reducible assumption)) | (with_reducible refine bw_alloc ?_ _) | (with_reducible refine bw_step ?_ (by with_reducible assumption)) | (with_reducible refine Below.alloc ?_ ?_ _) | (with_reducible refine Below.drew ?_) | (with_reducible refine below_drewN ?_ _) | (with_reducible refine Below.setCell ?_ ?_ _) | (with_reducible refine below_step ?_ (by with_reducible assumption) ?_) | (with_reducible exact Nat.le_refl _) | omega | (simp; omega) | (simp; done)))))).mono ?_
  rintro e w13 ⟨rfl, hb13⟩
  have R_b_13 : Row w13 (w1.heap.size) [.int .i64 1, .int .i64 1, .int .i64 10, .int .i64 5, .int .i64 7, .slice (some ⟨C, 0, none⟩) 2 2, .int .i64 3, .int .i64 4, .int .i64 100, .slice (some ⟨P, 0, none⟩) 2 2] := by (repeat' (first | (with_reducible assumption) | (with_reducible refine Row.new' _ _ _ (by first | rfl | (simp; done) | omega)) | (with_reducible refine Row.alloc ?_ _) | (with_reducible refine Row.drew ?_) | (with_reducible refine Row.drewN ?_ _) | (with_reducible refine Row.step ?_ (by with_reducible assumption)) | (with_reducible refine Row.set2' ?_ _ _; first | exact ⟨_, _, by with_reducible assumption⟩ | exact ⟨_, _, Row.alloc (by with_reducible assumption) _⟩ | exact ⟨_, _, Row.alloc (Row.alloc (by with_reducible assumption) _) _⟩) | (with_reducible refine Row.other ?_ (by first | omega | (simp; done) | (simp; omega)) _)))
  have c_b_0_13 := R_b_13.cell 0 rfl
  have c_b_1_13 := R_b_13.cell 1 rfl
  have c_b_2_13 := R_b_13.cell 2 rfl
  have c_b_3_13 := R_b_13.cell 3 rfl
  have c_b_4_13 := R_b_13.cell 4 rfl
  have c_b_5_13 := R_b_13.cell 5 rfl
  have c_b_6_13 := R_b_13.cell 6 rfl
  have c_b_7_13 := R_b_13.cell 7 rfl
  have c_b_8_13 := R_b_13.cell 8 rfl
  have c_b_9_13 := R_b_13.cell 9 rfl
  have l_b_13 := R_b_13.lt
  have R_m_13 : Row w13 (w8.heap.size) [.int .i64 1, .int .i64 1, .int .i64 10, .int .i64 5, .int .i64 7, .slice (some ⟨C, 0, none⟩) 2 2, .int .i64 3, .int .i64 4, .int .i64 100, .slice (some ⟨g, 0, none⟩) 2 2] := by (repeat' (first | (with_reducible assumption) | (with_reducible refine Row.new' _ _ _ (by first | rfl | (simp; done) | omega)) | (with_reducible refine Row.alloc ?_ _) | (with_reducible refine Row.drew ?_) | (with_reducible refine Row.drewN ?_ _) | (with_reducible refine Row.step ?_ (by with_reducible assumption)) | (with_reducible refine Row.set2' ?_ _ _; first | exact ⟨_, _, by with_reducible assumption⟩ | exact ⟨_, _, Row.alloc (by with_reducible assumption) _⟩ | exact ⟨_, _, Row.alloc (Row.alloc (by with_reducible assumption) _) _⟩) | (with_reducible refine Row.other ?_ (by first | omega | (simp; done) | (simp; omega)) _)))
  have c_m_0_13 := R_m_13.cell 0 rfl
  have c_m_1_13 := R_m_13.cell 1 rfl
  have c_m_2_13 := R_m_13.cell 2 rfl
  have c_m_3_13 := R_m_13.cell 3 rfl
  have c_m_4_13 := R_m_13.cell 4 rfl
  have c_m_5_13 := R_m_13.cell 5 rfl
  have c_m_6_13 := R_m_13.cell 6 rfl
  have c_m_7_13 := R_m_13.cell 7 rfl
  have c_m_8_13 := R_m_13.cell 8 rfl
  have c_m_9_13 := R_m_13.cell 9 rfl
  have l_m_13 := R_m_13.lt
  replace K := K.step (show Below w12.heap.size w12 w13 by (repeat' (first | (with_reducible exact Below.refl _ _) | (with_reducible assumption) | (with_reducible exact Bw.out (by with_reducible assumption)) | (with_reducible refine bw_alloc ?_ _) | (with_reducible refine bw_step ?_ (by with_reducible assumption)) | (with_reducible refine Below.alloc ?_ ?_ _) | (with_reducible refine Below.drew ?_) | (with_reducible refine below_drewN ?_ _) | (with_reducible refine Below.setCell ?_ ?_ _) | (with_reducible refine below_step ?_ (by with_reducible assumption) ?_) | (with_reducible exact Nat.le_refl _) | omega | (simp; omega) | (simp; done))))
  replace KG := KG.step (show Below w12.heap.size w12 w13 by (repeat' (first | (with_reducible exact Below.refl _ _) | (with_reducible assumption) | (with_reducible exact Bw.out (by with_reducible assumption)) | (with_reducible refine bw_alloc ?_ _) | (with_reducible refine bw_step ?_ (by with_reducible assumption)) | (with_reducible refine Below.alloc ?_ ?_ _) | (with_reducible refine Below.drew ?_) | (with_reducible refine below_drewN ?_ _) | (with_reducible refine Below.setCell ?_ ?_ _) | (with_reducible refine below_step ?_ (by with_reducible assumption) ?_) | (with_reducible exact Nat.le_refl _) | omega | (simp; omega) | (simp; done))))
  have HB13 : Below w.heap.size w w13 := by (repeat' (first | (with_reducible exact Below.refl _ _) | (with_reducible assumption) | (with_reducible exact Bw.out (by with_reducible assumption)) | (with_reducible refine bw_alloc ?_ _) | (with_reducible refine bw_step ?_ (by with_reducible assumption)) | (with_reducible refine Below.alloc ?_ ?_ _) | (with_reducible refine Below.drew ?_) | (with_reducible refine below_drewN ?_ _) | (with_reducible refine Below.setCell ?_ ?_ _) | (with_reducible refine below_step ?_ (by with_reducible assumption) ?_) | (with_reducible exact Nat.le_refl _) | omega | (simp; omega) | (simp; done)))
  clear R_b_12 c_b_0_12 c_b_1_12 c_b_2_12 c_b_3_12 c_b_4_12 c_b_5_12 c_b_6_12 c_b_7_12 c_b_8_12 c_b_9_12 R_m_12 c_m_0_12 c_m_1_12 c_m_2_12 c_m_3_12 c_m_4_12 c_m_5_12 c_m_6_12 c_m_7_12 c_m_8_12 c_m_9_12 hb12 HB12
  go_wp2_with fail
  go_ret
  refine ⟨(by first | rfl | exact ret_bool (by first | rfl | (simp; done) | (simp; omega))), ?_⟩
  (repeat' (first | (with_reducible exact Below.refl _ _) | (with_reducible assumption) | (with_reducible exact Bw.out (by with_reducible assumption)) | (with_reducible refine bw_alloc ?_ _) | (with_reducible refine bw_step ?_ (by with_reducible assumption)) | (with_reducible refine Below.alloc ?_ ?_ _) | (with_reducible refine Below.drew ?_) | (with_reducible refine below_drewN ?_ _) | (with_reducible refine Below.setCell ?_ ?_ _) | (with_reducible refine below_step ?_ (by with_reducible assumption) ?_) | (with_reducible exact Nat.le_refl _) | omega | (simp; omega) | (simp; done)))

end Go.Proofs.Ytjmlkdopbiedaaa
